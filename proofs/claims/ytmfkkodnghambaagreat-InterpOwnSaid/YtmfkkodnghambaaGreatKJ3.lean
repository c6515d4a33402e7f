/- Lemmas that the claim is made of. Conditions: each lemma names its own. -/
import Derived.Test.YtmfkkodnghambaaGreatKJ2
import Derived.Shelf.Lay
import Derived.Shelf.Sort.Plain
import Derived.Shelf.Slices.In.SortNone
import Derived.Shelf.Slices.CompactI
import Derived.Shelf.Slices.Reverse
import Derived.Sort.OwnSortedInts
import Derived.Test.YtmfkkodnghambaaGreatRows
set_option linter.unusedSectionVars false
set_option linter.unusedSimpArgs false
set_option linter.unusedVariables false
namespace Go.JE
variable {P : Program} {D D0 D1 E : List Dt} {L M N Ls L0 Rs : List Res} {e : Env} {X : Cx} {n : Fs} {w0 : World} {Q : Exit → Act → World → Prop} {F G : PH} {H : Heap} {R : Res} {i k : Nat}
theorem Own.focus : ∀ {Rs : List Res} {i : Nat} (hi : i < Rs.length),Own Rs k ↔ Own (Rs[i] :: Rs.set i (it [])) k
 | R :: Rs,0,_ => ⟨fun h => h.imp id .inr,fun h => h.imp id (·.resolve_left id)⟩
 | R :: Rs,i + 1,hi => by
   have ih := Own.focus (Rs := Rs) (i := i) (by simpa using hi)
   simp only [Own,List.getElem_cons_succ,List.set_cons_succ] at ih ⊢
   rw [ih]
   constructor
   · rintro (h | h | h)
     · exact .inr (.inl h)
     · exact .inl h
     · exact .inr (.inr h)
   · rintro (h | h | h)
     · exact .inr (.inl h)
     · exact .inl h
     · exact .inr (.inr h)
theorem Ok.focus : ∀ {Rs : List Res} {i : Nat} (hi : i < Rs.length),Ok F H Rs ↔ Ok F H (Rs[i] :: Rs.set i (it []))
 | R :: Rs,0,_ => ⟨fun ⟨a,b,c⟩ => ⟨a,fun k h ho => b k h (ho.resolve_left id),trivial,fun _ h => h.elim,c⟩,fun ⟨a,b,_,_,c⟩ => ⟨a,fun k h ho => b k h (.inr ho),c⟩⟩
 | R :: Rs,i + 1,hi => by
   have hi' : i < Rs.length := by simpa using hi
   have ih := Ok.focus (Rs := Rs) (i := i) hi'
   simp only [List.getElem_cons_succ,List.set_cons_succ]
   constructor
   · rintro ⟨a,b,c⟩
     obtain ⟨x,y,z⟩ := ih.1 c
     refine ⟨x,?_,a,fun k hk ho => b k hk ((Own.focus hi').2 (.inr ho)),z⟩
     rintro k hk (ho | ho)
     · exact b k ho ((Own.focus hi').2 (.inl hk))
     · exact y k hk ho
   · rintro ⟨x,y,a,b,z⟩
     refine ⟨a,fun k hk ho => ?_,ih.2 ⟨x,fun k hk ho => y k hk (.inr ho),z⟩⟩
     rcases (Own.focus hi').1 ho with h | h
     · exact y k h (.inl hk)
     · exact b k hk h
theorem Hp.focus (h : Hp X D (it Rs :: M) F H) (hi : i < Rs.length) : Hp X D (Rs[i] :: it (Rs.set i (it [])) :: M) F H := by
 have o := Ok.un.1 h.ok
 refine ⟨h.hx,h.hin,h.hw,h.hd,?_,fun k hk => ?_⟩
 · obtain ⟨a,b,c⟩ := h.ok
   obtain ⟨x,y,z⟩ := (Ok.focus hi).1 a
   exact ⟨x,fun k hk ho => ho.elim (y k hk) (b k ((Own.focus hi).2 (.inl hk))),z,fun k hk => b k ((Own.focus hi).2 (.inr hk)),c⟩
 · rcases hk with hk | hk | hk
   · exact h.ge k (.inl ((Own.focus hi).2 (.inl hk)))
   · exact h.ge k (.inl ((Own.focus hi).2 (.inr hk)))
   · exact h.ge k (.inr hk)
theorem Hp.unfocus (h : Hp X D (R :: it (Rs.set i (it [])) :: M) F H) (hi : i < Rs.length) : Hp X D (it (Rs.set i R) :: M) F H := by
 have hi2 : i < (Rs.set i R).length := by simpa using hi
 have e1 : (Rs.set i R)[i] = R := by simp
 have e2 : (Rs.set i R).set i (it []) = Rs.set i (it []) := by simp
 refine ⟨h.hx,h.hin,h.hw,h.hd,?_,fun k hk => ?_⟩
 · obtain ⟨a,b,c,d,f⟩ := h.ok
   refine ⟨(Ok.focus hi2).2 (by rw [e1,e2]; exact ⟨a,fun k hk ho => b k hk (.inl ho),c⟩),fun k hk => ?_,f⟩
   have hk' := (Own.focus hi2).1 hk
   rw [e1,e2] at hk'
   exact hk'.elim (fun h1 h2 => b k h1 (.inr h2)) (d k)
 · rcases hk with hk | hk
   · have hk' := (Own.focus hi2).1 hk
     rw [e1,e2] at hk'
     exact hk'.elim (fun h1 => h.ge k (.inl h1)) (fun h1 => h.ge k (.inr (.inl h1)))
   · exact h.ge k (.inr (.inr hk))
theorem Hp.front (h : Hp X D L F H) (hk : Tk L R M) : Hp X D (R :: M) F H := ⟨h.hx,h.hin,h.hw,h.hd,hk.ok h.ok,fun k h1 => h.ge k (hk.own h1)⟩
def rV : Rp Value where
 sz := 1
 agg := false
 ok _ u f := f 0 = u ∧ u.oneCell' = true
 up _ h := h
 ext he h := by rw [← he 0 (by omega)]; exact h
 one h i hi := by rw [show i = 0 by omega,h.1]; exact h.2
theorem wV {u : Value} (h : u.oneCell' = true) : Nd D L (dv rV u u) := fun _ _ _ _ _ => ⟨rfl,h⟩
section
variable {α : Type} {r : Rp α} {T To : TypeId} {B : Nat} {v u v' : Value} {vs : List Value} {ls : List (List α)} {l l' : List α}
def rws (B : Nat) (r : Rp α) (T : TypeId) (vs : List Value) (ls : List (List α)) : List Res := List.zipWith (gl B r T) vs ls
theorem zip_set {β γ δ : Type} (f : β → γ → δ) : ∀ (a : List β) (b : List γ) (i : Nat) (x : β) (y : γ),(List.zipWith f a b).set i (f x y) = List.zipWith f (a.set i x) (b.set i y)
 | [],_,_,_,_ => by simp
 | _ :: _,[],i,_,_ => by cases i <;> simp
 | _ :: _,_ :: _,0,_,_ => rfl
 | _ :: a,_ :: b,i + 1,x,y => by simp [zip_set f a b i x y]
def hole (i : Nat) (B : Nat) (r : Rp α) (T : TypeId) (vs : List Value) (ls : List (List α)) : Res := it ((rws B r T vs ls).set i (it []))
abbrev rw' (B : Nat) (r : Rp α) (T : TypeId) (vs : List Value) (ls : List (List α)) : Res := it (rws B r T vs ls)
section
variable {ops : Array Oper} {rest : List Oper} {c : Code} {m : Nat}
theorem rws_ix (h1 : i < vs.length) (h2 : i < ls.length) : ∃ h,(rws B r T vs ls)[i]'h = gl B r T (vs.getD i undef) (ls.getD i []) :=
 ⟨by simp [rws]; omega,by simp [rws,h1,h2]⟩
theorem Hp.row (hp : Hp X D L F H) (hk : Tk L (rw' B r T vs ls) M) (h1 : i < vs.length) (h2 : i < ls.length) : Hp X D (gl B r T (vs.getD i undef) (ls.getD i []) :: hole i B r T vs ls :: M) F H := by
 obtain ⟨h3,h4⟩ := rws_ix (B := B) (r := r) (T := T) h1 h2
 have := (hp.front hk).focus h3
 rw [h4] at this; exact this
theorem Hp.unrow (hp : Hp X D (gl B r T v' l' :: hole i B r T vs ls :: M) F H) (h1 : i < vs.length) (h2 : i < ls.length) : Hp X D (rw' B r T (vs.set i v') (ls.set i l') :: M) F H := by
 obtain ⟨h3,_⟩ := rws_ix (B := B) (r := r) (T := T) h1 h2
 have := hp.unfocus h3
 unfold rws at this
 rw [zip_set] at this; exact this
theorem jro (i : Nat) (hk : Tk L (rw' B r T vs ls) M) (h1 : i < vs.length) (h2 : i < ls.length) (k : LH P n w0 ops Q X D (gl B r T (vs.getD i undef) (ls.getD i []) :: hole i B r T vs ls :: M) e rest) : LH P n w0 ops Q X D L e rest := fun F H hp => k F H (hp.row hk h1 h2)
theorem jru (hk : Tk L (gl B r T v' l') M) (hk2 : Tk M (hole i B r T vs ls) N) (h1 : i < vs.length) (h2 : i < ls.length) (k : LH P n w0 ops Q X D (rw' B r T (vs.set i v') (ls.set i l') :: N) e rest) : LH P n w0 ops Q X D L e rest := fun F H hp => by
 have h3 := hp.front hk
 have h4 : Hp X D (gl B r T v' l' :: hole i B r T vs ls :: N) F H := ⟨h3.hx,h3.hin,h3.hw,h3.hd,by
     obtain ⟨a,b,c⟩ := h3.ok
     obtain ⟨x,y,z⟩ := hk2.ok c
     exact ⟨a,fun k hk ho => b k hk (hk2.own ho),x,y,z⟩,fun k hk => hk.elim (fun h => h3.ge k (.inl h)) (fun h => h3.ge k (.inr (hk2.own h)))⟩
 exact k F H (h4.unrow h1 h2)
theorem set_same {β : Type} (l : List β) (i : Nat) (z : β) : l.set i (l.getD i z) = l := by
 by_cases h : i < l.length
 · simp [List.getD,h]
 · rw [List.set_eq_of_length_le (by omega)]
theorem jrn (m : Nat) (k : LH P n w0 ops Q X D (rw' X.n r T (List.replicate m (.slice none 0 0)) (List.replicate m []) :: L) e rest) : LH P n w0 ops Q X D L e rest := fun F H hp => by
 have h1 : ∀ m k,¬ Own (rws X.n r T (List.replicate m (.slice none 0 0)) (List.replicate m [])) k := by
   intro m k
   induction m with
   | zero => exact id
   | succ m ih => exact fun h => h.elim (fun h => by cases h) ih
 have h2 : ∀ m,Ok F H (rws X.n r T (List.replicate m (.slice none 0 0)) (List.replicate m [])) := by
   intro m
   induction m with
   | zero => trivial
   | succ m ih => exact ⟨⟨Gl.nil _ _ _,hp.hw.1⟩,(fun k h => by cases h),ih⟩
 exact k F H (hp.new (R := rw' X.n r T (List.replicate m (.slice none 0 0)) (List.replicate m [])) (Kp.refl _ _) (h2 m) (fun k h => (h1 m k h).elim))
theorem jgW {x : Operand} (hk : Tk L (gl B rV To v vs) M) (hi : i < vs.length) (hT : One P T) (hx : ev e x = some (.pointer (some ⟨vblk v,voff v + i * 1,none⟩))) : OH P D L e (.load T x) (vs.getD i undef) := fun F H _ _ h => by
 obtain ⟨u,h1,h2⟩ := OpOk.ldGV (hk.ok h).1.1 hi hT rfl hx
 have e1 : u = vs.getD i undef := h2.1
 exact e1 ▸ h1
theorem rws_freeze : ∀ {vs : List Value} {ls : List (List α)} {F : PH},InH F H → Ok F H (rws B r T vs ls) → vs.length = ls.length → (∀ l ∈ ls,l.length < 1073741824) → ∃ G,F.le G ∧ InH G H ∧ (∀ k,k < B → G k = F k) ∧ (∀ k,¬ Own (rws B r T vs ls) k → G k = F k) ∧ ∀ i (h1 : i < vs.length) (h2 : i < ls.length),(rL r).rv G vs[i] ls[i]
 | [],[],F,hin,_,_,_ => ⟨F,PH.le.refl F,hin,fun _ _ => rfl,fun _ _ => rfl,fun i h1 => by cases h1⟩
 | v :: vs,l :: ls,F,hin,⟨⟨a,a2⟩,b,c⟩,hl,hM => by
   obtain ⟨G,h1,h2,h3,h4,h5⟩ := a.freeze (N := 1073741824) hin (hM l (.head _))
   have c' : Ok G H (rws B r T vs ls) := c.st h1 (Nat.le_refl _) (fun k hk => (h4 k (fun e1 => b k e1 hk)).trans (c.no hk)) (fun _ _ => rfl)
   obtain ⟨K,g1,g2,g3,g4,g5⟩ := rws_freeze h2 c' (by simpa using hl) (fun l hl => hM l (.tail _ hl))
   refine ⟨K,h1.trans g1,g2,fun k hk => (g3 k hk).trans (h3 k hk),fun k hk => (g4 k (fun h => hk (.inr h))).trans (h4 k (fun h => hk (.inl h))),fun i => ?_⟩
   cases i with
   | zero => exact fun _ _ => Rp.rv.up h5 g1
   | succ i => exact fun h1 h2 => g5 i (by simpa using h1) (by simpa using h2)
 | [],_ :: _,_,_,_,hl,_ => by cases hl
 | _ :: _,[],_,_,_,hl,_ => by cases hl
theorem rows_rv (h : (rLn m rV).rv F v vs) (hl : vs.length = ls.length) (hr : ∀ i (h1 : i < vs.length) (h2 : i < ls.length),(rL r).rv F vs[i] ls[i]) : (rLn m (rL r)).rv F v ls := by
 obtain ⟨a,b,c,d,f,g,g',x,y⟩ := h
 refine ⟨hl ▸ a,b,c,hl ▸ d,hl ▸ f,fun i hi => g i (by rw [hl]; exact hi),g',fun i hi => x i (by rw [hl]; exact hi),fun i hi => ?_⟩
 have hi' : i < vs.length := hl ▸ hi
 have h1 := hr i hi' hi
 have h2 := y i hi'
 refine (rL r).ext (fun j hj => ?_) h1
 rw [show j = 0 from Nat.lt_one_iff.1 hj]
 exact h2.1.symm
theorem Hp.freezes (hp : Hp X D L F H) (hk : Tk L (gl X.n rV To v vs) M) (hk2 : Tk M (rw' X.n r T vs ls) N) (hl : vs.length = ls.length) (h0 : ls.length < 1073741824) (hM : ∀ l ∈ ls,l.length < 1073741824) : ∃ G,Hp X (dv (rL (rL r)) v ls :: D) N G H := by
 have h1 := hp.front hk
 obtain ⟨o1,o2,o3⟩ := h1.ok
 obtain ⟨q1,q2,q3⟩ := hk2.ok o3
 have o1' : Gl rV To F H X.n v vs := o1.1
 obtain ⟨G,f1,f2,f3,f4,f5⟩ := o1'.freeze (N := 1073741824) hp.hin (by omega)
 have q1' : Ok G H (rws X.n r T vs ls) := Ok.st f1 (Nat.le_refl _) (fun k hk => (f4 k (fun e1 => o2 k e1 (hk2.own (.inl hk)))).trans (Ok.no (L := rws X.n r T vs ls) q1 hk)) (fun _ _ => rfl) q1
 obtain ⟨K,g1,g2,g3,g4,g5⟩ := rws_freeze f2 q1' hl hM
 have h6 : ∀ k,Own N k → K k = F k := fun k hk1 => (g4 k (fun h => q2 k h hk1)).trans (f4 k (fun e1 => o2 k e1 (hk2.own (.inr hk1))))
 have hx2 : ∀ k,k < X.n → K k = F k := fun k hk1 => (g3 k hk1).trans (f3 k hk1)
 refine ⟨K,⟨hp.hx.1.trans (f1.trans g1),fun k hk1 => (hx2 k hk1).trans (hp.hx.2 k hk1)⟩,g2,hp.hw,⟨rows_rv (Rp.rv.up f5 g1) hl g5,hp.hd.up (f1.trans g1)⟩,q3.st (f1.trans g1) (Nat.le_refl _) (fun k hk1 => (h6 k hk1).trans (q3.no hk1)) (fun _ _ => rfl),fun k hk1 => h1.ge k (.inr (hk2.own (.inr hk1)))⟩
theorem qfr {z : Exit} (hk : Tk L (gl X.n rV To v vs) M) (hk2 : Tk M (rw' X.n r T vs ls) N) (hl : vs.length = ls.length) (h0 : ls.length < 1073741824) (hM : ∀ l ∈ ls,l.length < 1073741824) (k : QH n w0 Q X (dv (rL (rL r)) v ls :: D) N e z) : QH n w0 Q X D L e z := fun F H hp => by
 obtain ⟨G,h⟩ := hp.freezes hk hk2 hl h0 hM; exact k G H h
end
end
end Go.JE
namespace Go.JE
variable {P : Program} {D D0 D1 : List Dt} {L M N Ls L0 Rs : List Res} {e : Env} {X : Cx} {n : Fs} {w0 : World} {Q : Exit → Act → World → Prop}
section
variable {ops : Array Oper} {d : Nat} {ty : TypeId} {pos : String} {af : Array Edge} {rest : List Oper} {v u z w2 : Value} {x y : Operand} {T T' E : TypeId} {bytes B hi N' : Nat} {α : Type} {r : Rp α} {l m : List α} {a : α}
end
end Go.JE
namespace Go.JE
variable {P : Program} {D D0 D1 : List Dt} {L M N Ls L0 Rs : List Res} {e : Env} {X : Cx} {n : Fs} {w0 : World} {Q : Exit → Act → World → Prop}
def putf (off : Nat) (us : List Value) (f : Nat → Value) : Nat → Value := fun j => if off ≤ j ∧ j < off + us.length then us.getD (j - off) undef else f j
section
variable {α : Type} [Inhabited α] {r : Rp α} {E T : TypeId} {F : PH} {H : Heap} {B i off m o g : Nat} {v u : Value} {us : List Value} {l : List α} {a : α} {x y : Operand}
theorem ix_lt {l : List α} {i : Nat} (h : i < l.length) : ix l i = l[i] := by simp [ix,List.getD,h]
omit [Inhabited α] in
theorem setAt_getD {cs l : List Value} {o i : Nat} (ho : o + l.length ≤ cs.length) : (setAt cs o l).getD i undef = if o ≤ i ∧ i < o + l.length then l.getD (i - o) undef else cs.getD i undef := setAt_get l cs o i ho
theorem Gl.putl (h : Gl r E F H B v l) (hi : i < l.length) (hg : v.ownBlock = some g) (ho : off + us.length ≤ r.sz) (hok : ∀ f,r.ok F (ix l i) f → r.ok F a (putf off us f)) : Gl r E F (setl H g (i * r.sz + off) us) B v (l.set i a) := by
 obtain ⟨xs,h1,h2,h3⟩ := h
 have hb : (i + 1) * r.sz ≤ l.length * r.sz := Nat.mul_le_mul_right _ hi
 rw [Nat.add_mul] at hb
 have hlen : i * r.sz + off + us.length ≤ xs.length := by rw [h1.1]; omega
 refine ⟨setAt xs (i * r.sz + off) us,by rw [List.length_set]; exact Gr.setl us _ h1 ⟨g,hg⟩ g hg,h2,fun j hj => ?_⟩
 rw [List.length_set] at hj
 by_cases e1 : j = i
 · subst e1
   rw [List.getElem_set_self]
   refine r.ext (fun q hq => ?_) (hok _ (by rw [ix_lt hi]; exact h3 j hi))
   rw [setAt_getD hlen]
   unfold putf
   by_cases h5 : off ≤ q ∧ q < off + us.length
   · rw [if_pos h5,if_pos (by omega),show j * r.sz + q - (j * r.sz + off) = q - off by omega]
   · rw [if_neg h5,if_neg (by omega)]
 · rw [List.getElem_set_ne (Ne.symm e1)]
   refine r.ext (fun q hq => ?_) (h3 j hj)
   rw [setAt_getD hlen,if_neg]
   rintro ⟨h5,h6⟩
   rcases Nat.lt_or_gt_of_ne e1 with h7 | h7
   · have : (j + 1) * r.sz ≤ i * r.sz := Nat.mul_le_mul_right _ h7
     rw [Nat.add_mul] at this; omega
   · have : (i + 1) * r.sz ≤ j * r.sz := Nat.mul_le_mul_right _ h7
     rw [Nat.add_mul] at this; omega
omit [Inhabited α] in
theorem Gl.rw (h : Gl r E F H B v l) (hi : i < l.length) (hs : 0 < r.sz) : ∃ g c n,v = .slice (some ⟨g,0,none⟩) l.length c ∧ (∃ f,Rw H g E n f) ∧ l.length * r.sz ≤ n := by
 obtain ⟨xs,g1,g2,g3⟩ := h
 rcases g1.2 with ⟨h9,h8⟩ | ⟨g,cap,cur,h9,hb,hg,hc1,hc2,hc3,hc4⟩
 · omega
 · exact ⟨g,cap,cur.size,h9,⟨fun j => cur.getD j undef,cur,hg,rfl,fun j hj => by simp [Array.getD,hj]⟩,by rw [hc3]; exact Nat.mul_le_mul_right _ hc1⟩
theorem OpCh.storeP (h : Gl r E F H B v l) (hi : i < l.length) (hT : Sz P T 1) (hx : ev e x = some (.pointer (some ⟨vblk v,o,none⟩))) (hoo : o = voff v + i * r.sz + off) (hy : ev e y = some u) (h1 : u.oneCell' = true) (ho : off < r.sz) (hok : ∀ f,r.ok F (ix l i) f → r.ok F a (putf off [u] f)) :
   OpCh P e (.store T x y) H (fun _ H' => ∃ g,v.ownBlock = some g ∧ Tw g H H' ∧ Gl r E F H' B v (l.set i a)) := by
 obtain ⟨g,c,n,rfl,⟨f,hr⟩,hn⟩ := h.rw hi (by omega)
 have hb : (i + 1) * r.sz ≤ l.length * r.sz := Nat.mul_le_mul_right _ hi
 rw [Nat.add_mul] at hb
 intro ρ oo w hoo' hev hw
 have hx' : ev e x = some (.pointer (some ⟨g,i * r.sz + off,none⟩)) := by rw [hx,hoo]; simp [vblk,voff]
 obtain ⟨v',w',k1,k2,k3,k4,k5⟩ := OpCh.store (P := P) hT hx' hy h1 hr (by omega) ρ oo w hoo' hev hw
 refine ⟨v',w',k1,k2,k3,k4,g,rfl,by rw [k5]; exact ⟨size_setc,fun k hk => setc_other hk⟩,?_⟩
 rw [k5]
 exact h.putl (us := [u]) hi rfl (by simp only [List.length_cons,List.length_nil]; omega) hok
theorem OpCh.storePA (h : Gl r E F H B v l) (hi : i < l.length) (hT : Sz P T m) (hx : ev e x = some (.pointer (some ⟨vblk v,o,none⟩))) (hoo : o = voff v + i * r.sz + off) (hy : ev e y = some (.agg us.toArray)) (hl : us.length = m) (h1 : ∀ u ∈ us,u.oneCell' = true) (hs : 0 < r.sz) (ho : off + us.length ≤ r.sz) (hok : ∀ f,r.ok F (ix l i) f → r.ok F a (putf off us f)) :
   OpCh P e (.store T x y) H (fun _ H' => ∃ g,v.ownBlock = some g ∧ Tw g H H' ∧ Gl r E F H' B v (l.set i a)) := by
 obtain ⟨g,c,n,rfl,⟨f,hr⟩,hn⟩ := h.rw hi hs
 have hb : (i + 1) * r.sz ≤ l.length * r.sz := Nat.mul_le_mul_right _ hi
 rw [Nat.add_mul] at hb
 intro ρ oo w hoo' hev hw
 have hx' : ev e x = some (.pointer (some ⟨g,i * r.sz + off,none⟩)) := by rw [hx,hoo]; simp [vblk,voff]
 obtain ⟨v',w',k1,k2,k3,k4,k5⟩ := OpCh.storeAgg (P := P) hT hx' hy hl h1 hr (by omega) ρ oo w hoo' hev hw
 refine ⟨v',w',k1,k2,k3,k4,g,rfl,by rw [k5]; exact ⟨size_setl _ _ _ _,fun k hk => setl_other hk _ _ _⟩,?_⟩
 rw [k5]
 exact h.putl hi rfl ho hok
theorem Gl.cellP (h : Gl r E F H B v l) (hi : i < l.length) (ho : off < r.sz) : ∃ f,r.ok F (ix l i) f ∧ hc H (vblk v) (voff v + i * r.sz + off) = some (f off) := by
 obtain ⟨xs,g1,g2,g3⟩ := h
 have hb : (i + 1) * r.sz ≤ l.length * r.sz := Nat.mul_le_mul_right _ hi
 rw [Nat.add_mul] at hb
 refine ⟨fun j => xs.getD (i * r.sz + j) undef,by rw [ix_lt hi]; exact g3 i hi,?_⟩
 rcases g1.2 with ⟨h9,h8⟩ | ⟨g,cap,cur,rfl,hb',hg,hc1,hc2,hc3,hc4⟩
 · omega
 · have h5 : i * r.sz + off < cur.size := by
     rw [hc3]
     have : l.length * r.sz ≤ cap * r.sz := Nat.mul_le_mul_right _ hc1
     omega
   have h6 : i * r.sz + off < l.length * r.sz := by omega
   simp only [vblk,voff,Nat.zero_add,hc,hg]
   rw [← hc4]
   simp [List.getD,h5,h6,List.getElem?_take]
section
variable {ops : Array Oper} {d : Nat} {ty : TypeId} {pos : String} {af : Array Edge} {rest : List Oper}
def PO (D : List Dt) (L : List Res) (r : Rp α) (a : α) (off : Nat) (us : List Value) (b : α) : Prop := ∀ F H,InH F H → AllD F D → Ok F H L → ∀ f,r.ok F a f → r.ok F b (putf off us f)
theorem jsp (hk : Tk L (gl B r E v l) M) (hi : i < l.length) (hT : Sz P T 1) (hx : ev e x = some (.pointer (some ⟨vblk v,o,none⟩))) (hoo : o = voff v + i * r.sz + off) (hy : ev e y = some u) (h1 : u.oneCell' = true) (hok : PO D L r (ix l i) off [u] a)
   (k : LH P n w0 ops Q X D (gl B r E v (l.set i a) :: M) e rest) (ho : off < r.sz := by exact Nat.le_of_ble_eq_true rfl) : LH P n w0 ops Q X D L e (⟨none,.store T x y,ty,pos,af,none⟩ :: rest) := fun F H hp =>
 LF.chg0 (OpCh.storeP (hp.at hk).1 hi hT hx hoo hy h1 ho (hok F H hp.hin hp.hd hp.ok)) (by
   rintro _ H' ⟨g,hg,t,hb⟩
   exact k F H' (hp.set (R' := gl B r E v (l.set i a)) hk ⟨Nat.le_of_eq t.1.symm,fun k _ h2 => t.2 k (fun e1 => h2 (e1 ▸ hg))⟩ ⟨hb,by rw [t.1]; exact hp1 hp hk⟩ (fun k h => .inr h)))
end
theorem OpCh.makeN {z : Value} {bytes n : Nat} {I J : Int} (hT : P.underlying T = some (.slice E)) (hE : (P.info? E).map (fun i => (i.zero,i.size,i.bytes)) = some (some z,r.sz,bytes)) (hz : z.cells.size = r.sz) (hs : 0 < r.sz)
   (hx : ev e x = some (.int .i64 I)) (hy : ev e y = some (.int .i64 J)) (hI : I = n) (hJ : J = n) (h1 : bytes * n ≤ 281474976710656) (h2 : n ≤ 140737488355328) (hok : r.ok F a (fun j => z.cells.getD j undef)) :
   OpCh P e (.makeSlice T x y) H (fun u H' => ∃ g,u = .slice (some ⟨g,0,none⟩) n n ∧ g = H.size ∧ H'.size = H.size + 1 ∧ Kp H.size H H' ∧ (InH F H → Gl r E F H' H.size (.slice (some ⟨g,0,none⟩) n n) (List.replicate n a))) := by
 subst hI; subst hJ
 intro ρ o w ho hev hw
 obtain ⟨i,hi,hzz⟩ := Option.map_eq_some_iff.1 hE
 simp only [Prod.mk.injEq] at hzz
 obtain ⟨hz0,hs',hb⟩ := hzz
 have hb' : (i.bytes : Int) * (n : Int) ≤ 281474976710656 := by
   have h9 : ((i.bytes * n : Nat) : Int) ≤ 281474976710656 := by rw [hb]; omega
   rwa [Int.natCast_mul] at h9
 have hr := run_make (P := P) w T E i z hT hi hz0 .i64 .i64 n n (by omega) (Int.le_refl _) hb' (by omega)
 refine ⟨.slice (some ⟨w.heap.size,0,none⟩) n n,w.alloc (.cells (madeCells z.cells (n * i.size)) E),.inl ?_,rfl,rfl,rfl,H.size,?_⟩
 · simp only [Int.toNat_natCast] at hr
   simp [execOp,ho,hev _ _ hx,hev _ _ hy,hr]
 · subst hw
   refine ⟨rfl,rfl,by show (w.heap.push _).size = _; simp,⟨by show _ ≤ (w.heap.push _).size; simp,fun k hk => push_old hk⟩,fun hin => ?_⟩
   refine Gl.ofRow (cs := (madeCells z.cells (n * r.sz)).toList) ?_ (hin.nope (Nat.le_refl _)) (Nat.le_refl _) (by simp [madeCells]) (by simp) (by unfold maxLen; omega) (fun j hj => ?_)
   · show (w.heap.push _)[w.heap.size]? = _
     rw [push_new,hs']
   · simp only [List.length_replicate] at hj
     simp only [List.getElem_replicate]
     refine r.ext (fun q hq => ?_) hok
     have h3 : j * r.sz + q < n * r.sz := by
       have : (j + 1) * r.sz ≤ n * r.sz := Nat.mul_le_mul_right _ hj
       rw [Nat.add_mul] at this; omega
     have h4 : (j * r.sz + q) % r.sz = q := by rw [Nat.add_comm,Nat.add_mul_mod_self_right,Nat.mod_eq_of_lt hq]
     simp [List.getD,madeCells,hz,h3,h4,hq]
end
end Go.JE
namespace Go.JE
variable {P : Program} {D D0 : List Dt} {L M : List Res} {e : Env} {X : Cx} {n : Fs} {w0 : World} {Q : Exit → Act → World → Prop}
section
variable {ops : Array Oper} {op : Op} {d : Nat} {ty : TypeId} {pos : String} {af : Array Edge} {rest : List Oper} {f : FuncId} {g : Operand} {xs : List Operand} {vs cs : List Value} {ts : Array TypeId}
theorem jgk {j t : Nat} {want : Bool} {u : Value} (hj : (ops[j]?).bind (·.dst) = some t) (hu : lk e t = some u) (hB : Gd u want true) (h : LH P n w0 ops Q X D L e (⟨some d,op,ty,pos,af,none⟩ :: rest)) (ht : Nat.blt t n.sz = true := by rfl) : LH P n w0 ops Q X D L e (⟨some d,op,ty,pos,af,some (j,want)⟩ :: rest) := fun F H hp a w hf hw => by
 have hwt := wanted_gd (o := ⟨some d,op,ty,pos,af,some (j,want)⟩) rfl hj ht hf hu hB
 have h1 := h F H hp a w hf hw
 unfold wpList at h1 ⊢
 rw [if_pos hwt]
 rw [if_pos (by simp [Region.wanted])] at h1
 exact h1
instance : Inhabited Value := ⟨undef⟩
end
section
open Go
theorem results_cell2 {P : Program} {fn : Func} {p q : Tmp} {ty ty' : TypeId} (h : fn.results = #[.cell p ty,.cell q ty']) (tmps : Array Value) (w : World) (g g' : Nat) (t t' : TypeId) (cs cs' : Array Value) (fr fr' : Nat × Nat) (d d' : TypeDesc)
   (hp : tmps.getD p undef = .pointer (some ⟨g,0,none⟩)) (hg : w.heap[g]? = some (.cells cs t fr)) (hu : P.underlying ty = some d) (hd : (match d with | .struct _ | .array _ _ => true | _ => false) = true) (hi : (P.info? ty).map (·.size) = some cs.size)
   (hp' : tmps.getD q undef = .pointer (some ⟨g',0,none⟩)) (hg' : w.heap[g']? = some (.cells cs' t' fr')) (hu' : P.underlying ty' = some d') (hd' : (match d' with | .struct _ | .array _ _ => true | _ => false) = true) (hi' : (P.info? ty').map (·.size) = some cs'.size) :
   (results fn tmps).run P w = .ok (.tuple #[.agg cs,.agg cs']) w := by
 have h1 : tmps[p]?.getD undef = .pointer (some ⟨g,0,none⟩) := by simpa using hp
 have h2 : tmps[q]?.getD undef = .pointer (some ⟨g',0,none⟩) := by simpa using hp'
 simp [results,h,h1,h2,asAddr,run_loadVar_row w g t ty cs fr d hg hu hd hi,run_loadVar_row w g' t' ty' cs' fr' d' hg' hu' hd' hi']
variable {fn : Func} {m : Nat} {ι : Type} {val : ι → Value} {dr : ι → List Dt} {lr : Nat → ι → List Res}
theorem PF.retC2 {H : Heap} {R : Value → Heap → Prop} {p q g g' : Nat} {ty T ty' T' : TypeId} {l l' : List Value} (hr : fn.results = #[.cell p ty,.cell q ty']) (hv : lk e p = some (.pointer (some ⟨g,0,none⟩))) (hb : Bx H g T l) (hv' : lk e q = some (.pointer (some ⟨g',0,none⟩))) (hb' : Bx H g' T' l')
   (hd : ∃ d,P.underlying ty = some d ∧ (match d with | .struct _ | .array _ _ => true | _ => false) = true) (hS : Sz P ty l.length) (hd' : ∃ d,P.underlying ty' = some d ∧ (match d with | .struct _ | .array _ _ => true | _ => false) = true) (hS' : Sz P ty' l'.length) (hR : R (.tuple #[.agg l.toArray,.agg l'.toArray]) H) : PF ⟨m,[]⟩ w0 (BQ P fn w0 R) e .ret H := by
 intro a w hf hw
 obtain ⟨d,hd1,hd2⟩ := hd
 obtain ⟨d',hd1',hd2'⟩ := hd'
 refine bodyPost_ret (results_cell2 hr _ w g g' T T' l.toArray l'.toArray (0,0) (0,0) d d' (hf.get p _ hv) (by rw [hw.heap]; exact hb) hd1 (by cases d <;> first | rfl | cases hd2) (by unfold Sz at hS; simpa using hS) (hf.get q _ hv') (by rw [hw.heap]; exact hb') hd1' (by cases d' <;> first | rfl | cases hd2') (by unfold Sz at hS'; simpa using hS')) hf.defers ⟨_,rfl,hw.os,hw.tape,hw.output,hw.heap ▸ hR⟩
theorem jrc2 {p g q g' : Nat} {ty T ty' T' : TypeId} {cs cs' : List Value} {N N' : List Res} (hr : fn.results = #[.cell p ty,.cell q ty']) (hv : lk e p = some (.pointer (some ⟨g,0,none⟩))) (hv' : lk e q = some (.pointer (some ⟨g',0,none⟩))) (hb : Tk L (bx g T cs) N) (hb' : Tk L (bx g' T' cs') N') (hA : ∃ d,P.underlying ty = some d ∧ (match d with | .struct _ | .array _ _ => true | _ => false) = true) (hS : Sz P ty cs.length) (hA' : ∃ d,P.underlying ty' = some d ∧ (match d with | .struct _ | .array _ _ => true | _ => false) = true) (hS' : Sz P ty' cs'.length)
   (i : ι) (hm : .tuple #[.agg cs.toArray,.agg cs'.toArray] = val i) (hd : Sd D L (dr i)) (hk : ∀ B,B ≤ X.n → Tks L (lr B i) M) : QH ⟨m,[]⟩ w0 (RQ2 P fn w0 X val dr lr) X D L e .ret := fun F H hp => PF.retC2 hr hv (hp.at hb).1 hv' (hp.at hb').1 hA hS hA' hS' ⟨i,F,hm,fun B hB => hp.sub hd (hk B hB)⟩
end
end Go.JE
namespace Go.JE
open Go
variable {P : Program} {D D0 : List Dt} {L M : List Res} {e : Env} {X : Cx} {n : Fs} {w0 : World} {Q : Exit → Act → World → Prop}
section
variable {α : Type} {r : Rp α} {F : PH} {H : Heap} {x y : Operand} {T E : TypeId} {z : Value} {bytes B : Nat} {w2 : Value} {l m : List α} {N N2 : Nat} {ad : Addr}
end
section
variable {α : Type} {r : Rp α} {ops : Array Oper} {d : Nat} {ty : TypeId} {pos : String} {af : Array Edge} {rest : List Oper} {x y hx' mx' : Operand} {T E : TypeId} {z v w2 : Value} {bytes : Nat} {l m : List α} {k k' : IntKind} {I J : Int} {hi N : Nat}
end
section
variable {α : Type} {r : Rp α} {ops : Array Oper} {d : Nat} {ty : TypeId} {pos : String} {af : Array Edge} {rest : List Oper} {x y : Operand} {T E : TypeId} {z v w2 : Value} {bytes : Nat} {l m : List α} {N : Nat}
end
section
variable {α : Type} {r : Rp α} {x hx' mx' : Operand} {T E : TypeId} {v : Value} {l : List α} {k k' : IntKind} {I J : Int} {hi N : Nat}
end
end Go.JE
namespace Go.JE
open Go
abbrev Ris (l : List Int) : Prop := l.Pairwise (· < ·)
def zIn (x : Int) : List Int → List Int
 | [] => [x]
 | y :: l => if x < y then x :: y :: l else if x = y then y :: l else y :: zIn x l
theorem zIn_mem {x y : Int} : ∀ {l : List Int},y ∈ zIn x l ↔ y = x ∨ y ∈ l
 | [] => by simp [zIn]
 | z :: l => by
   rw [zIn]; split
   · simp
   · split
     · rename_i h; subst h; simp
     · rw [List.mem_cons,zIn_mem,List.mem_cons]
       constructor
       · rintro (h | h | h) <;> simp [h]
       · rintro (h | h | h) <;> simp [h]
theorem zIn_ris {x : Int} : ∀ {l : List Int},Ris l → Ris (zIn x l)
 | [],_ => by simp [zIn,Ris]
 | z :: l,h => by
   rw [Ris,List.pairwise_cons] at h
   rw [zIn]; split
   · rename_i h1
     refine List.pairwise_cons.2 ⟨fun y hy => ?_,List.pairwise_cons.2 h⟩
     rcases List.mem_cons.1 hy with rfl | hy
     · exact h1
     · have := h.1 y hy; omega
   · split
     · exact List.pairwise_cons.2 h
     · refine List.pairwise_cons.2 ⟨fun y hy => ?_,zIn_ris h.2⟩
       rcases zIn_mem.1 hy with rfl | hy
       · omega
       · exact h.1 y hy
theorem ris_ext : ∀ {a b : List Int},Ris a → Ris b → (∀ x,x ∈ a ↔ x ∈ b) → a = b
 | [],[],_,_,_ => rfl
 | [],y :: b,_,_,h => absurd ((h y).2 (by simp)) (by simp)
 | x :: a,[],_,_,h => absurd ((h x).1 (by simp)) (by simp)
 | x :: a,y :: b,ha,hb,h => by
   rw [Ris,List.pairwise_cons] at ha hb
   have e : x = y := by
     rcases List.mem_cons.1 ((h x).1 (by simp)) with e | e
     · exact e
     · rcases List.mem_cons.1 ((h y).2 (by simp)) with e2 | e2
       · exact e2.symm
       · have := hb.1 x e; have := ha.1 y e2; omega
   subst e
   rw [ris_ext ha.2 hb.2 fun z => ?_]
   constructor
   · intro hz
     rcases List.mem_cons.1 ((h z).1 (by simp [hz])) with e | e
     · subst e; have := ha.1 z hz; omega
     · exact e
   · intro hz
     rcases List.mem_cons.1 ((h z).2 (by simp [hz])) with e | e
     · subst e; have := hb.1 z hz; omega
     · exact e
theorem Ris.nodup {l : List Int} (h : Ris l) : l.Nodup := List.Pairwise.imp (fun h => by omega) h
structure Sx (L : List (Int × Value)) (S : List Int) : Prop where
 ris : Ris S
 mem : ∀ x,x ∈ L.map (·.1) ↔ x ∈ S
 tru : ∀ p ∈ L,p.2 = .bool true
theorem Sx.nil : Sx [] [] := ⟨by simp [Ris],by simp,by simp⟩
theorem upM_tru {k : Int} : ∀ {L : List (Int × Value)},(∀ p ∈ L,p.2 = .bool true) → ∀ p ∈ upM L k (.bool true),p.2 = .bool true
 | [],_,p,h => by simp [upM] at h; subst h; rfl
 | q :: r,hq,p,h => by
   rw [upM] at h; split at h
   · rcases List.mem_cons.1 h with rfl | h
     · rfl
     · exact hq p (by simp [h])
   · rcases List.mem_cons.1 h with rfl | h
     · exact hq _ (by simp)
     · exact upM_tru (fun p hp => hq p (by simp [hp])) p h
section
variable {L L' : List (Int × Value)} {S : List Int} {k : Int}
theorem Sx.up (h : Sx L S) : Sx (upM L k (.bool true)) (zIn k S) where
 ris := zIn_ris h.ris
 mem := fun x => by
   rw [upM_keys,zIn_mem,← h.mem x]
   split
   · rename_i h1
     exact ⟨.inr,fun h2 => h2.elim (fun e => e ▸ h1) id⟩
   · simp [or_comm]
 tru := upM_tru h.tru
theorem Sx.lk (h : Sx L S) : (lkM L k).getD (.bool false) = .bool (decide (k ∈ S)) := by
 cases hl : lkM L k with
 | none =>
   have := lkM_none.1 hl
   rw [h.mem] at this
   simp [this]
 | some v =>
   unfold lkM at hl
   rw [Option.map_eq_some_iff] at hl
   obtain ⟨p,h1,rfl⟩ := hl
   have hm := List.mem_of_find?_eq_some h1
   have he := List.find?_some h1
   have : k ∈ S := (h.mem k).1 (List.mem_map.2 ⟨p,hm,by simpa using he⟩)
   rw [h.tru p hm]; simp [this]
theorem Sx.len (h : Sx L S) (hn : (L.map (·.1)).Nodup) : L.length = S.length := by
 have h1 : (L.map (·.1)).Perm S := (List.perm_ext_iff_of_nodup hn h.ris.nodup).2 h.mem
 have := h1.length_eq
 simpa using this
end
variable {P : Program} {D D0 : List Dt} {L M N : List Res} {e : Env} {X : Cx} {n : Fs} {w0 : World} {Q : Exit → Act → World → Prop}
section
variable {ops : Array Oper} {op : Op} {d : Nat} {ty : TypeId} {pos : String} {af : Array Edge} {rest : List Oper} {T T' K E : TypeId} {x y z : Operand} {g B : Nat} {S : List Int} {k : Int} {v u : Value}
def sit (r : Nat) (v : Value) (S vis : List Int) : Res where
 sat F H := (∃ g es c L,v = .map (some g) ∧ F g = some (.map es c) ∧ ImAt es c L ∧ Sx L S ∧ r ≠ g ∧ r < H.size ∧ ∀ K : Heap,K[g]? = some (.map es c) → K[r]? = H[r]? → It K r g L vis) ∧ F r = none
 own k := k = r
 lt := fun h e => by obtain ⟨⟨g,es,c,L,_,_,_,_,_,h1,_⟩,_⟩ := h; rw [e]; exact h1
 no := fun h e => e ▸ h.2
 st := fun hl hs h1 h2 h => by
   obtain ⟨⟨g,es,c,L,a1,a2,a3,a4,a5,a6,a7⟩,a8⟩ := h
   exact ⟨⟨g,es,c,L,a1,hl _ _ a2,a3,a4,a5,Nat.lt_of_lt_of_le a6 hs,fun K hg hr => a7 K hg (hr.trans (h2 r rfl))⟩,h1 r rfl⟩
theorem sit.it {F : PH} {H : Heap} {r : Nat} {vis : List Int} (h : (sit r v S vis).sat F H) (hin : InH F H) : ∃ g L,v = .map (some g) ∧ It H r g L vis ∧ Sx L S ∧ r ≠ g := by
 obtain ⟨⟨g,es,c,L,a1,a2,a3,a4,a5,a6,a7⟩,a8⟩ := h
 exact ⟨g,L,a1,a7 H (hin _ _ a2) rfl,a4,a5⟩
end
section
variable {α : Type} {r : Rp α} {T To : TypeId} {B i : Nat} {vs : List Value} {ls : List (List α)} {l' : List α} {ops : Array Oper} {rest : List Oper} {c : Code} {z : Exit}
end
end Go.JE
namespace Go.Proofs.YtmfkkodnghambaaGreat
open Go.Shelf Go.JE
shelf_lay Lays.n189 Nm 189 at Tryz as Tryz.lays189
open Go.Sort Go.RowKit in
theorem Tryz.sort_int (blk off cap : Nat) (zs : List Int) (w : World) (hH : Holds (Value.int .i64) w blk off zs.toArray) (hblk : blk < w.heap.size) (hsz : zs.length < 4611686018427387904) :
   Calls Tryz.prog 188 #[.slice (some ⟨blk,off,none⟩) zs.length cap] w fun e w' =>
     e = .returned (.tuple #[]) ∧ ∃ n os,w' = grow (putRow (Value.int .i64) (Sort.ahead w n) blk off (zs.mergeSort fun x y => decide (x ≤ y)).toArray) os := Any.slices_Sort_int Tryz.lays189 blk off cap zs w hH hblk hsz
theorem Tryz.sort_none (p : Option Addr) (cap : Nat) (w : World) :
   Calls Tryz.prog 188 #[.slice p 0 cap] w fun e w' => e = .returned (.tuple #[]) ∧ w' = w := Any.slices_Sort_int_none Tryz.lays189 p cap w
def sortM (l : List Int) : List Int := l.mergeSort fun x y => decide (x ≤ y)
open Go.Sort Go.RowKit in
theorem sort_ct {F : PH} {H : Heap} (hin : InH F H) {B : Nat} {v : Value} {l : List Int} (p : Gl (rI .i64) 3 F H B v l) (hl : l.length < 1073741824) :
   Ct Tryz.prog 188 #[v] H (fun u H' => u = .tuple #[] ∧ Kw (own1 v) H H' ∧ Gl (rI .i64) 3 F H' B v (sortM l)) := by
 obtain ⟨xs,o1,o2,o3⟩ := p
 have hlen : (sortM l).length = l.length := List.length_mergeSort l
 intro w hw
 rcases o1.2 with ⟨rfl,e2⟩ | ⟨g,cap,cur,rfl,hb,hg,hc1,hc2,hc3,hc4⟩
 · refine (Tryz.sort_none none 0 w).mono ?_
   rintro e w' ⟨rfl,rfl⟩
   have hn : l = [] := List.eq_nil_of_length_eq_zero e2
   subst hn
   refine ⟨_,rfl,rfl,rfl,rfl,rfl,by rw [hw]; exact Kw.refl _ _,?_⟩
   rw [show sortM [] = [] from by simp [sortM]]; exact Gl.nil _ _ _
 · have hgl : g < w.heap.size := by rw [hw]; exact (Array.getElem?_eq_some_iff.1 hg).1
   have hxl : xs.length = l.length := by have := o1.1; rw [show (rI .i64).sz = 1 from rfl,Nat.mul_one] at this; exact this
   have hxs : xs = l.map (Value.int .i64) := by
     apply List.ext_getElem (by rw [hxl,List.length_map])
     intro i h1 h2
     rw [List.getElem_map]
     have : xs.getD (i * 1 + 0) undef = Value.int .i64 l[i] := (o3 i (by omega)).1
     rw [Nat.mul_one,Nat.add_zero,List.getD_eq_getElem?_getD,List.getElem?_eq_getElem h1] at this
     exact this
   have ht : cur.toList.take l.length = l.map (Value.int .i64) := by
     rw [← hxs,← hc4,show (rI .i64).sz = 1 from rfl,Nat.mul_one]
   have hH := holds_of_blockI (w := w) (g := g) (cur := cur) (e := 3) (ss := l) (by rw [hw]; exact hg) ht
   refine (Tryz.sort_int g 0 cap l w hH hgl (by omega)).mono ?_
   rintro e w' ⟨rfl,n,os,rfl⟩
   have hgb := grownBy_sortedI (w := w) (g := g) (n := n) (os := os) (sortM l).toArray
   have hro := ownsRow_sortedI (w := w) (base := B) (g := g) (cap := cap) (n := n) (e := 3) (os := os) (cur := cur) (ss := l) (ts := sortM l) hlen hb (by rw [hw]; exact hg) hc1 hc2 hc3
   refine ⟨_,rfl,hgb.os,hgb.tape,hgb.output,rfl,⟨by rw [← hw]; exact hgb.size,fun k hk hn => ?_⟩,?_⟩
   · rw [← hw] at hk ⊢
     exact hgb.block k hk (fun e1 => hn (show some g = some k from e1.symm))
   · refine ⟨(sortM l).map (Value.int .i64),?_,o2,fun i hi => ?_⟩
     · rw [hlen]; exact Gr.owns.1 hro
     · have hm : (sortM l)[i] ∈ l := (List.mergeSort_perm l _).subset (List.getElem_mem hi)
       obtain ⟨j,hj,e1⟩ := List.getElem_of_mem hm
       refine ⟨?_,?_⟩
       · show ((sortM l).map (Value.int .i64)).getD (i * 1 + 0) undef = _
         rw [Nat.mul_one,Nat.add_zero,List.getD_eq_getElem?_getD,List.getElem?_map,List.getElem?_eq_getElem hi]; rfl
       · rw [← e1]; exact (o3 j hj).2
open Go.JE in
theorem sortT {B : Nat} {v : Value} {l : List Int} (hl : l.length < 1073741824) : Tr Tryz.prog 188 #[v] [] [gl B (rI .i64) 3 v l] (fun _ : Unit => .tuple #[]) (fun _ => []) (fun _ _ => [gl B (rI .i64) 3 v (sortM l)]) := fun F H hin _ ho =>
 (sort_ct hin ho.1.1 hl).mono fun u H' ⟨h1,h2,h3⟩ => ⟨(),F,h1,fun B' _ => ⟨PH.ext.refl F,hin.kw h2 (fun k hk => ho.1.1.no k hk),⟨h2.1,fun k hk hn => h2.2 k hk (fun h => hn (.inl h))⟩,trivial,⟨⟨h3,Nat.le_trans ho.1.2 h2.1⟩,fun _ _ => id,trivial⟩,fun k hk => .inr hk⟩⟩
theorem sortM_mem {l : List Int} {x : Int} : x ∈ sortM l ↔ x ∈ l := (List.mergeSort_perm l _).mem_iff
theorem sortM_le (l : List Int) : (sortM l).Pairwise (· ≤ ·) := by
 have h := List.pairwise_mergeSort (le := fun x y : Int => decide (x ≤ y)) (fun a b c h1 h2 => by simp at *; omega) (fun a b => by simp; omega) l
 exact h.imp (fun h => by simpa using h)
shelf_lay Lays2.n20 Nm2 20 at Tryz as Tryz.lays20
open Go.Sort Go.RowKit in
theorem Tryz.comp_int (blk off cap : Nat) (zs : List Int) (w : World) (hH : Holds (Value.int .i64) w blk off zs.toArray) (hsz : zs.length ≤ 9223372036854775807) (hcap : zs.length ≤ cap) :
   Calls Tryz.prog 189 #[.slice (some ⟨blk,off,none⟩) zs.length cap] w fun e w' => e = .returned (.slice (some ⟨blk,off,none⟩) (Lib.compact zs).length cap) ∧ ∃ q,w' = putRow (Value.int .i64) (Sort.ahead w q) blk off (Lib.compact zs ++ List.replicate (zs.length - (Lib.compact zs).length) 0).toArray := Any.slices_Compact_int Tryz.lays20 blk off cap zs w hH hsz hcap
theorem Tryz.comp_none (a : Option Addr) (cap : Nat) (w : World) : Calls Tryz.prog 189 #[.slice a 0 cap] w fun e w' => e = .returned (.slice a 0 cap) ∧ w' = w := Any.slices_Compact_int_empty Tryz.lays20 a cap w
theorem comp_len (l : List Int) : (Lib.compact l).length ≤ l.length := by
 unfold Lib.compact Lib.compactUpTo
 rw [List.length_map]
 exact Nat.le_trans (List.length_filter_le _ _) (by simp)
theorem comp_sub {l : List Int} {x : Int} (h : x ∈ Lib.compact l) : x ∈ l := by
 unfold Lib.compact Lib.compactUpTo at h
 obtain ⟨j,hj,rfl⟩ := List.mem_map.1 h
 have := List.mem_range.1 (List.mem_filter.1 hj).1
 simp [this]
open Go.Sort Go.RowKit in
theorem comp_ct {F : PH} {H : Heap} (hin : InH F H) {B : Nat} {v : Value} {l : List Int} (p : Gl (rI .i64) 3 F H B v l) (hl : l.length < 1073741824) :
   Ct Tryz.prog 189 #[v] H (fun u H' => u.ownBlock = v.ownBlock ∧ Kw (own1 v) H H' ∧ Gl (rI .i64) 3 F H' B u (Lib.compact l)) := by
 obtain ⟨xs,o1,o2,o3⟩ := p
 have hlen := comp_len l
 intro w hw
 rcases o1.2 with ⟨rfl,e2⟩ | ⟨g,cap,cur,rfl,hb,hg,hc1,hc2,hc3,hc4⟩
 · refine (Tryz.comp_none none 0 w).mono ?_
   rintro e w' ⟨rfl,rfl⟩
   have hn : l = [] := List.eq_nil_of_length_eq_zero e2
   subst hn
   refine ⟨_,rfl,rfl,rfl,rfl,rfl,by rw [hw]; exact Kw.refl _ _,?_⟩
   rw [show Lib.compact ([] : List Int) = [] from by simp [Lib.compact,Lib.compactUpTo]]; exact Gl.nil _ _ _
 · have hgl : g < w.heap.size := by rw [hw]; exact (Array.getElem?_eq_some_iff.1 hg).1
   have hxl : xs.length = l.length := by have := o1.1; rw [show (rI .i64).sz = 1 from rfl,Nat.mul_one] at this; exact this
   have hxs : xs = l.map (Value.int .i64) := by
     apply List.ext_getElem (by rw [hxl,List.length_map])
     intro i h1 h2
     rw [List.getElem_map]
     have : xs.getD (i * 1 + 0) undef = Value.int .i64 l[i] := (o3 i (by omega)).1
     rw [Nat.mul_one,Nat.add_zero,List.getD_eq_getElem?_getD,List.getElem?_eq_getElem h1] at this
     exact this
   have ht : cur.toList.take l.length = l.map (Value.int .i64) := by
     rw [← hxs,← hc4,show (rI .i64).sz = 1 from rfl,Nat.mul_one]
   have hH := holds_of_blockI (w := w) (g := g) (cur := cur) (e := 3) (ss := l) (by rw [hw]; exact hg) ht
   refine (Tryz.comp_int g 0 cap l w hH (by omega) hc1).mono ?_
   rintro e w' ⟨rfl,n,rfl⟩
   have htl : (Lib.compact l ++ List.replicate (l.length - (Lib.compact l).length) 0).length = l.length := by simp; omega
   have e9 : ∀ W : World,grow W #[] = W := fun W => by cases W; simp [grow]
   generalize hts : Lib.compact l ++ List.replicate (l.length - (Lib.compact l).length) 0 = ts at htl ⊢
   rw [← e9 (putRow _ _ _ _ _)]
   have hgb := grownBy_sortedI (w := w) (g := g) (n := n) (os := #[]) ts.toArray
   have hro := ownsRow_sortedI (w := w) (base := B) (g := g) (cap := cap) (n := n) (e := 3) (os := #[]) (cur := cur) (ss := l) (ts := ts) htl hb (by rw [hw]; exact hg) hc1 hc2 hc3
   refine ⟨_,rfl,hgb.os,hgb.tape,hgb.output,rfl,⟨by rw [← hw]; exact hgb.size,fun k hk hn => ?_⟩,?_⟩
   · rw [← hw] at hk ⊢
     exact hgb.block k hk (fun e1 => hn (show some g = some k from e1.symm))
   · refine ⟨(Lib.compact l).map (Value.int .i64),?_,o2,fun i hi => ?_⟩
     · obtain ⟨_,h2⟩ := Gr.owns.1 hro
       rcases h2 with ⟨h2,_⟩ | ⟨g2,cap2,cur2,e1,f1,f2,f3,f4,f5,f6⟩
       · cases h2
       · injection e1 with e1 _ e2
         injection e1 with e1
         injection e1 with e1
         subst e1; subst e2
         refine ⟨by simp [show (rI .i64).sz = 1 from rfl],.inr ⟨g,cap,cur2,rfl,f1,f2,by omega,f4,f5,?_⟩⟩
         rw [show (rI .i64).sz = 1 from rfl,Nat.mul_one]
         rw [Nat.mul_one] at f6
         have h7 : cur2.toList.take (Lib.compact l).length = (cur2.toList.take l.length).take (Lib.compact l).length := by rw [List.take_take,Nat.min_eq_left hlen]
         rw [h7,f6,← hts,List.map_append,List.take_left' (by simp)]
     · have hm : (Lib.compact l)[i] ∈ l := comp_sub (List.getElem_mem hi)
       obtain ⟨j,hj,e1⟩ := List.getElem_of_mem hm
       refine ⟨?_,?_⟩
       · show ((Lib.compact l).map (Value.int .i64)).getD (i * 1 + 0) undef = _
         rw [Nat.mul_one,Nat.add_zero,List.getD_eq_getElem?_getD,List.getElem?_map,List.getElem?_eq_getElem hi]; rfl
       · rw [← e1]; exact (o3 j hj).2
open Go.JE in
theorem compT {B : Nat} {v : Value} {l : List Int} (hl : l.length < 1073741824) : Tr Tryz.prog 189 #[v] [] [gl B (rI .i64) 3 v l] (fun u : Value => u) (fun _ => []) (fun _ u => [gl B (rI .i64) 3 u (Lib.compact l)]) := fun F H hin _ ho =>
 (comp_ct hin ho.1.1 hl).mono fun u H' ⟨h0,h2,h3⟩ => ⟨u,F,rfl,fun B' _ => ⟨PH.ext.refl F,hin.kw h2 (fun k hk => ho.1.1.no k hk),⟨h2.1,fun k hk hn => h2.2 k hk (fun h => hn (.inl h))⟩,trivial,⟨⟨h3,Nat.le_trans ho.1.2 h2.1⟩,fun _ _ => id,trivial⟩,fun k hk => .inr (by rcases hk with hk | hk; (exact .inl (show v.ownBlock = some k from by rw [← h0]; exact hk)); exact .inr hk)⟩⟩
theorem comp_ris {l : List Int} (h : l.Pairwise (· ≤ ·)) : (Lib.compact l).Pairwise (· < ·) := by
 unfold Lib.compact Lib.compactUpTo
 rw [List.pairwise_map]
 have h1 : ((List.range l.length).filter (Lib.keeps l.toArray)).Pairwise (· < ·) := List.Pairwise.filter _ List.pairwise_lt_range
 rw [List.pairwise_iff_forall_sublist] at h1 ⊢
 intro a b hs
 have h2 := h1 hs
 have ha := List.mem_filter.1 (hs.subset (show a ∈ [a,b] by simp))
 have hb := List.mem_filter.1 (hs.subset (show b ∈ [a,b] by simp))
 have hbl := List.mem_range.1 hb.1
 have hk := hb.2
 unfold Lib.keeps at hk
 simp only [decide_eq_true_eq] at hk
 have h3 := List.pairwise_iff_getElem.1 h
 have e : ∀ j,(hj : j < l.length) → l.toArray[j]! = l[j] := fun j hj => by simp [hj]
 rw [e a (by omega),e b hbl]
 rw [e b hbl,e (b - 1) (by omega)] at hk
 have h4 := h3 (b - 1) b (by omega) hbl (by omega)
 rcases Nat.lt_or_ge a (b - 1) with h5 | h5
 · have := h3 a (b - 1) (by omega) (by omega) h5; omega
 · have : a = b - 1 := by omega
   subst this; omega
theorem comp_mem {l : List Int} {x : Int} : x ∈ Lib.compact l ↔ x ∈ l := by
 refine ⟨comp_sub,fun h => ?_⟩
 obtain ⟨j,hj,e⟩ := List.getElem_of_mem h
 have key : ∀ j,(hj : j < l.length) → l[j] = x → x ∈ Lib.compact l := by
   intro j
   induction j using Nat.strongRecOn with
   | ind j ih =>
     intro hj e
     by_cases hk : Lib.keeps l.toArray j = true
     · unfold Lib.compact Lib.compactUpTo
       exact List.mem_map.2 ⟨j,List.mem_filter.2 ⟨List.mem_range.2 hj,hk⟩,by simp [hj,e]⟩
     · unfold Lib.keeps at hk
       simp only [decide_eq_true_eq,not_or,ne_eq,Classical.not_not] at hk
       refine ih (j - 1) (by omega) (by omega) ?_
       have e2 : ∀ j,(hj : j < l.length) → l.toArray[j]! = l[j] := fun j hj => by simp [hj]
       rw [e2 j hj,e2 (j - 1) (by omega)] at hk
       rw [← hk.2]; exact e
 exact key j hj e
shelf_lay Lays.n112 Nm 112 at Tryz as Tryz.lays112
def revM (l : List Int) : List Int := l.reverse
open Go.Sort Go.RowKit in
theorem Tryz.rev_int (blk off cap : Nat) (zs : List Int) (w : World) (hH : Holds (Value.int .i64) w blk off zs.toArray) (hsz : zs.length ≤ 9223372036854775807) :
   Calls Tryz.prog 184 #[.slice (some ⟨blk,off,none⟩) zs.length cap] w fun e w' => e = .returned (.tuple #[]) ∧ ∃ n,w' = putRow (Value.int .i64) (Sort.ahead w n) blk off zs.reverse.toArray := Any.slices_Reverse_int Tryz.lays112 blk off cap zs w hH hsz
theorem Tryz.rev_none (p : Option Addr) (cap : Nat) (w : World) : Calls Tryz.prog 184 #[.slice p 0 cap] w fun e w' => e = .returned (.tuple #[]) ∧ w' = w := Any.slices_Reverse_int_empty Tryz.lays112 p cap w
open Go.Sort Go.RowKit in
theorem rev_ct {F : PH} {H : Heap} (hin : InH F H) {B : Nat} {v : Value} {l : List Int} (p : Gl (rI .i64) 3 F H B v l) (hl : l.length < 1073741824) :
   Ct Tryz.prog 184 #[v] H (fun u H' => u = .tuple #[] ∧ Kw (own1 v) H H' ∧ Gl (rI .i64) 3 F H' B v (revM l)) := by
 obtain ⟨xs,o1,o2,o3⟩ := p
 have hlen : (revM l).length = l.length := List.length_reverse
 intro w hw
 rcases o1.2 with ⟨rfl,e2⟩ | ⟨g,cap,cur,rfl,hb,hg,hc1,hc2,hc3,hc4⟩
 · refine (Tryz.rev_none none 0 w).mono ?_
   rintro e w' ⟨rfl,rfl⟩
   have hn : l = [] := List.eq_nil_of_length_eq_zero e2
   subst hn
   refine ⟨_,rfl,rfl,rfl,rfl,rfl,by rw [hw]; exact Kw.refl _ _,?_⟩
   rw [show revM [] = [] from by simp [revM]]; exact Gl.nil _ _ _
 · have hgl : g < w.heap.size := by rw [hw]; exact (Array.getElem?_eq_some_iff.1 hg).1
   have hxl : xs.length = l.length := by have := o1.1; rw [show (rI .i64).sz = 1 from rfl,Nat.mul_one] at this; exact this
   have hxs : xs = l.map (Value.int .i64) := by
     apply List.ext_getElem (by rw [hxl,List.length_map])
     intro i h1 h2
     rw [List.getElem_map]
     have : xs.getD (i * 1 + 0) undef = Value.int .i64 l[i] := (o3 i (by omega)).1
     rw [Nat.mul_one,Nat.add_zero,List.getD_eq_getElem?_getD,List.getElem?_eq_getElem h1] at this
     exact this
   have ht : cur.toList.take l.length = l.map (Value.int .i64) := by
     rw [← hxs,← hc4,show (rI .i64).sz = 1 from rfl,Nat.mul_one]
   have hH := holds_of_blockI (w := w) (g := g) (cur := cur) (e := 3) (ss := l) (by rw [hw]; exact hg) ht
   refine (Tryz.rev_int g 0 cap l w hH (by omega)).mono ?_
   rintro e w' ⟨rfl,n,rfl⟩
   have e9 : ∀ W : World,grow W #[] = W := fun W => by cases W; simp [grow]
   rw [← e9 (putRow _ _ _ _ _)]
   generalize (#[] : Array Obj) = os
   have hgb := grownBy_sortedI (w := w) (g := g) (n := n) (os := os) (revM l).toArray
   have hro := ownsRow_sortedI (w := w) (base := B) (g := g) (cap := cap) (n := n) (e := 3) (os := os) (cur := cur) (ss := l) (ts := revM l) hlen hb (by rw [hw]; exact hg) hc1 hc2 hc3
   refine ⟨_,rfl,hgb.os,hgb.tape,hgb.output,rfl,⟨by rw [← hw]; exact hgb.size,fun k hk hn => ?_⟩,?_⟩
   · rw [← hw] at hk ⊢
     exact hgb.block k hk (fun e1 => hn (show some g = some k from e1.symm))
   · refine ⟨(revM l).map (Value.int .i64),?_,o2,fun i hi => ?_⟩
     · rw [hlen]; exact Gr.owns.1 hro
     · have hm : (revM l)[i] ∈ l := List.mem_reverse.1 (List.getElem_mem hi)
       obtain ⟨j,hj,e1⟩ := List.getElem_of_mem hm
       refine ⟨?_,?_⟩
       · show ((revM l).map (Value.int .i64)).getD (i * 1 + 0) undef = _
         rw [Nat.mul_one,Nat.add_zero,List.getD_eq_getElem?_getD,List.getElem?_map,List.getElem?_eq_getElem hi]; rfl
       · rw [← e1]; exact (o3 j hj).2
open Go.JE in
theorem revT {B : Nat} {v : Value} {l : List Int} (hl : l.length < 1073741824) : Tr Tryz.prog 184 #[v] [] [gl B (rI .i64) 3 v l] (fun _ : Unit => .tuple #[]) (fun _ => []) (fun _ _ => [gl B (rI .i64) 3 v (revM l)]) := fun F H hin _ ho =>
 (rev_ct hin ho.1.1 hl).mono fun u H' ⟨h1,h2,h3⟩ => ⟨(),F,h1,fun B' _ => ⟨PH.ext.refl F,hin.kw h2 (fun k hk => ho.1.1.no k hk),⟨h2.1,fun k hk hn => h2.2 k hk (fun h => hn (.inl h))⟩,trivial,⟨⟨h3,Nat.le_trans ho.1.2 h2.1⟩,fun _ _ => id,trivial⟩,fun k hk => .inr hk⟩⟩
open Go.JE
structure D.In where
 From : Int
 Val : Int
deriving DecidableEq
instance : Inhabited D.In := ⟨⟨0,0⟩⟩
def rIn : Rp D.In := rM (rP (rI .i64) (rI .i64)) (fun m => (m.From,m.Val))
theorem rIn.at_From {F : PH} {b o : Nat} {m : D.In} (h : At F rIn b o m) : At F (rI .i64) b (o + 0) m.From := At.part 0 h (Nat.le_of_ble_eq_true rfl) (fun _ h => h.1)
theorem rIn.at_Val {F : PH} {b o : Nat} {m : D.In} (h : At F rIn b o m) : At F (rI .i64) b (o + 1) m.Val := At.part 1 h (Nat.le_of_ble_eq_true rfl) (fun _ h => h.2)
theorem rIn.open {F : PH} {v : Value} {m : D.In} (h : rIn.ra F v m) : v = .agg #[.int .i64 m.From,.int .i64 m.Val] := by
 obtain ⟨l,rfl,hl,h⟩ := h
 match l,hl with
 | [a0,a1],_ =>
   obtain ⟨⟨h0,_⟩,⟨h1,_⟩⟩ := h
   obtain rfl : a0 = _ := h0
   obtain rfl : a1 = _ := h1
   exact rfl
theorem rIn.mk {F : PH} {m : D.In}   (w0 : IntKind.i64.wrap m.From = m.From) (w1 : IntKind.i64.wrap m.Val = m.Val) : rIn.ra F (.agg #[.int .i64 m.From,.int .i64 m.Val]) m := ⟨[.int .i64 m.From,.int .i64 m.Val],rfl,rfl,⟨⟨rfl,w0⟩,⟨rfl,w1⟩⟩⟩
structure D.Phi where
 Dst : Int
 In : List D.In
deriving DecidableEq
instance : Inhabited D.Phi := ⟨⟨0,[]⟩⟩
def rPhiN (N : Nat) : Rp D.Phi := rM (rP (rI .i64) (rLn N rIn)) (fun m => (m.Dst,m.In))
abbrev rPhi : Rp D.Phi := rPhiN 1073741824
theorem rPhi.at_Dst {N : Nat} {F : PH} {b o : Nat} {m : D.Phi} (h : At F (rPhiN N) b o m) : At F (rI .i64) b (o + 0) m.Dst := At.part 0 h (Nat.le_of_ble_eq_true rfl) (fun _ h => h.1)
theorem rPhi.at_In {N : Nat} {F : PH} {b o : Nat} {m : D.Phi} (h : At F (rPhiN N) b o m) : At F (rLn N rIn) b (o + 1) m.In := At.part 1 h (Nat.le_of_ble_eq_true rfl) (fun _ h => h.2)
theorem rPhi.any {N : Nat} {F : PH} {v : Value} {m : D.Phi} (h : (rPhiN N).ra F v m) : ∃ f,(rPhiN N).ok F m f := by obtain ⟨l,_,_,h⟩ := h; exact ⟨_,h⟩
theorem rPhi.w_Dst {N : Nat} {F : PH} {m : D.Phi} (h : ∃ f,(rPhiN N).ok F m f) : IntKind.i64.wrap m.Dst = m.Dst := by obtain ⟨_,h⟩ := h; exact (h.1).2
theorem rPhi.open {N : Nat} {F : PH} {v : Value} {m : D.Phi} (h : (rPhiN N).ra F v m) : ∃ c1,v = .agg #[.int .i64 m.Dst,c1] ∧ (rLn N rIn).rv F c1 m.In := by
 obtain ⟨l,rfl,hl,h⟩ := h
 match l,hl with
 | [a0,a1],_ =>
   obtain ⟨⟨h0,_⟩,h1⟩ := h
   obtain rfl : a0 = _ := h0
   exact ⟨a1,rfl,h1⟩
theorem rPhi.mk {N : Nat} {F : PH} {m : D.Phi} {c1 : Value} (h1 : (rLn N rIn).rv F c1 m.In) (w0 : IntKind.i64.wrap m.Dst = m.Dst) : (rPhiN N).ra F (.agg #[.int .i64 m.Dst,c1]) m := ⟨[.int .i64 m.Dst,c1],rfl,rfl,⟨⟨rfl,w0⟩,h1⟩⟩
structure D.Mach where
 Op : Int
 D : Int
 E : Int
 A : Int
 B : Int
 C : Int
 Imm : Int
 Args : List Int
deriving DecidableEq
instance : Inhabited D.Mach := ⟨⟨0,0,0,0,0,0,0,[]⟩⟩
structure D.End where
 Op : Int
 A : Int
 B : Int
 To : List Int
 Imm : Int
deriving DecidableEq
instance : Inhabited D.End := ⟨⟨0,0,0,[],0⟩⟩
structure D.MBlock where
 Phis : List D.Phi
 Ins : List D.Mach
 End : D.End
deriving DecidableEq
instance : Inhabited D.MBlock := ⟨⟨[],[],default⟩⟩
structure D.MFunc where
 Params : Int
 Blocks : List D.MBlock
deriving DecidableEq
instance : Inhabited D.MFunc := ⟨⟨0,[]⟩⟩
structure D.Input where
 Args : List Int
 Mem : List Int
 Answers : List Int
 Steps : Int
deriving DecidableEq
instance : Inhabited D.Input := ⟨⟨[],[],[],0⟩⟩
def rInputN (N : Nat) : Rp D.Input := rM (rP (rLn N (rI .i32)) (rP (rLn N (rI .i32)) (rP (rLn N (rI .i32)) (rI .i64)))) (fun m => (m.Args,m.Mem,m.Answers,m.Steps))
abbrev rInput : Rp D.Input := rInputN 1073741824
theorem rInput.open {N : Nat} {F : PH} {v : Value} {m : D.Input} (h : (rInputN N).ra F v m) : ∃ c0 c1 c2,v = .agg #[c0,c1,c2,.int .i64 m.Steps] ∧ (rLn N (rI .i32)).rv F c0 m.Args ∧ (rLn N (rI .i32)).rv F c1 m.Mem ∧ (rLn N (rI .i32)).rv F c2 m.Answers := by
 obtain ⟨l,rfl,hl,h⟩ := h
 match l,hl with
 | [a0,a1,a2,a3],_ =>
   obtain ⟨h0,h1,h2,⟨h3,_⟩⟩ := h
   obtain rfl : a3 = _ := h3
   exact ⟨a0,a1,a2,rfl,h0,h1,h2⟩
theorem rInput.mk {N : Nat} {F : PH} {m : D.Input} {c0 : Value} {c1 : Value} {c2 : Value} (h0 : (rLn N (rI .i32)).rv F c0 m.Args) (h1 : (rLn N (rI .i32)).rv F c1 m.Mem) (h2 : (rLn N (rI .i32)).rv F c2 m.Answers) (w3 : IntKind.i64.wrap m.Steps = m.Steps) : (rInputN N).ra F (.agg #[c0,c1,c2,.int .i64 m.Steps]) m := ⟨[c0,c1,c2,.int .i64 m.Steps],rfl,rfl,⟨h0,h1,h2,⟨rfl,w3⟩⟩⟩
structure D.Event where
 Callee : Int
 Args : List Int
deriving DecidableEq
instance : Inhabited D.Event := ⟨⟨0,[]⟩⟩
def rEventN (N : Nat) : Rp D.Event := rM (rP (rI .i32) (rLn N (rI .i32))) (fun m => (m.Callee,m.Args))
abbrev rEvent : Rp D.Event := rEventN 1073741824
theorem rEvent.at_Callee {N : Nat} {F : PH} {b o : Nat} {m : D.Event} (h : At F (rEventN N) b o m) : At F (rI .i32) b (o + 0) m.Callee := At.part 0 h (Nat.le_of_ble_eq_true rfl) (fun _ h => h.1)
theorem rEvent.at_Args {N : Nat} {F : PH} {b o : Nat} {m : D.Event} (h : At F (rEventN N) b o m) : At F (rLn N (rI .i32)) b (o + 1) m.Args := At.part 1 h (Nat.le_of_ble_eq_true rfl) (fun _ h => h.2)
structure D.Outcome where
 End : Int
 Val : Int
 Mem : List Int
 Calls : List D.Event
 Steps : Int
deriving DecidableEq
instance : Inhabited D.Outcome := ⟨⟨0,0,[],[],0⟩⟩
def rOutcomeN (N : Nat) : Rp D.Outcome := rM (rP (rI .i64) (rP (rI .i32) (rP (rLn N (rI .i32)) (rP (rLn N (rEventN N)) (rI .i64))))) (fun m => (m.End,m.Val,m.Mem,m.Calls,m.Steps))
abbrev rOutcome : Rp D.Outcome := rOutcomeN 1073741824
theorem rOutcome.any {N : Nat} {F : PH} {v : Value} {m : D.Outcome} (h : (rOutcomeN N).ra F v m) : ∃ f,(rOutcomeN N).ok F m f := by obtain ⟨l,_,_,h⟩ := h; exact ⟨_,h⟩
theorem rOutcome.w_End {N : Nat} {F : PH} {m : D.Outcome} (h : ∃ f,(rOutcomeN N).ok F m f) : IntKind.i64.wrap m.End = m.End := by obtain ⟨_,h⟩ := h; exact (h.1).2
theorem rOutcome.w_Val {N : Nat} {F : PH} {m : D.Outcome} (h : ∃ f,(rOutcomeN N).ok F m f) : IntKind.i32.wrap m.Val = m.Val := by obtain ⟨_,h⟩ := h; exact (h.2.1).2
theorem rOutcome.w_Steps {N : Nat} {F : PH} {m : D.Outcome} (h : ∃ f,(rOutcomeN N).ok F m f) : IntKind.i64.wrap m.Steps = m.Steps := by obtain ⟨_,h⟩ := h; exact (h.2.2.2.2).2
theorem rOutcome.open {N : Nat} {F : PH} {v : Value} {m : D.Outcome} (h : (rOutcomeN N).ra F v m) : ∃ c2 c3,v = .agg #[.int .i64 m.End,.int .i32 m.Val,c2,c3,.int .i64 m.Steps] ∧ (rLn N (rI .i32)).rv F c2 m.Mem ∧ (rLn N (rEventN N)).rv F c3 m.Calls := by
 obtain ⟨l,rfl,hl,h⟩ := h
 match l,hl with
 | [a0,a1,a2,a3,a4],_ =>
   obtain ⟨⟨h0,_⟩,⟨h1,_⟩,h2,h3,⟨h4,_⟩⟩ := h
   obtain rfl : a0 = _ := h0
   obtain rfl : a1 = _ := h1
   obtain rfl : a4 = _ := h4
   exact ⟨a2,a3,rfl,h2,h3⟩
theorem rOutcome.mk {N : Nat} {F : PH} {m : D.Outcome} {c2 : Value} {c3 : Value} (h2 : (rLn N (rI .i32)).rv F c2 m.Mem) (h3 : (rLn N (rEventN N)).rv F c3 m.Calls) (w0 : IntKind.i64.wrap m.End = m.End) (w1 : IntKind.i32.wrap m.Val = m.Val) (w4 : IntKind.i64.wrap m.Steps = m.Steps) : (rOutcomeN N).ra F (.agg #[.int .i64 m.End,.int .i32 m.Val,c2,c3,.int .i64 m.Steps]) m := ⟨[.int .i64 m.End,.int .i32 m.Val,c2,c3,.int .i64 m.Steps],rfl,rfl,⟨⟨rfl,w0⟩,⟨rfl,w1⟩,h2,h3,⟨rfl,w4⟩⟩⟩
structure D.Ins where
 Op : Int
 Dst : Int
 Two : Int
 Args : List Int
 Imm : Int
deriving DecidableEq
instance : Inhabited D.Ins := ⟨⟨0,0,0,[],0⟩⟩
def rInsN (N : Nat) : Rp D.Ins := rM (rP (rI .i64) (rP (rI .i64) (rP (rI .i64) (rP (rLn N (rI .i64)) (rI .i32))))) (fun m => (m.Op,m.Dst,m.Two,m.Args,m.Imm))
abbrev rIns : Rp D.Ins := rInsN 1073741824
theorem rIns.at_Op {N : Nat} {F : PH} {b o : Nat} {m : D.Ins} (h : At F (rInsN N) b o m) : At F (rI .i64) b (o + 0) m.Op := At.part 0 h (Nat.le_of_ble_eq_true rfl) (fun _ h => h.1)
theorem rIns.at_Dst {N : Nat} {F : PH} {b o : Nat} {m : D.Ins} (h : At F (rInsN N) b o m) : At F (rI .i64) b (o + 1) m.Dst := At.part 1 h (Nat.le_of_ble_eq_true rfl) (fun _ h => h.2.1)
theorem rIns.at_Two {N : Nat} {F : PH} {b o : Nat} {m : D.Ins} (h : At F (rInsN N) b o m) : At F (rI .i64) b (o + 2) m.Two := At.part 2 h (Nat.le_of_ble_eq_true rfl) (fun _ h => h.2.2.1)
theorem rIns.at_Args {N : Nat} {F : PH} {b o : Nat} {m : D.Ins} (h : At F (rInsN N) b o m) : At F (rLn N (rI .i64)) b (o + 3) m.Args := At.part 3 h (Nat.le_of_ble_eq_true rfl) (fun _ h => h.2.2.2.1)
theorem rIns.at_Imm {N : Nat} {F : PH} {b o : Nat} {m : D.Ins} (h : At F (rInsN N) b o m) : At F (rI .i32) b (o + 4) m.Imm := At.part 4 h (Nat.le_of_ble_eq_true rfl) (fun _ h => h.2.2.2.2)
theorem rIns.any {N : Nat} {F : PH} {v : Value} {m : D.Ins} (h : (rInsN N).ra F v m) : ∃ f,(rInsN N).ok F m f := by obtain ⟨l,_,_,h⟩ := h; exact ⟨_,h⟩
theorem rIns.w_Dst {N : Nat} {F : PH} {m : D.Ins} (h : ∃ f,(rInsN N).ok F m f) : IntKind.i64.wrap m.Dst = m.Dst := by obtain ⟨_,h⟩ := h; exact (h.2.1).2
theorem rIns.w_Two {N : Nat} {F : PH} {m : D.Ins} (h : ∃ f,(rInsN N).ok F m f) : IntKind.i64.wrap m.Two = m.Two := by obtain ⟨_,h⟩ := h; exact (h.2.2.1).2
theorem rIns.w_Imm {N : Nat} {F : PH} {m : D.Ins} (h : ∃ f,(rInsN N).ok F m f) : IntKind.i32.wrap m.Imm = m.Imm := by obtain ⟨_,h⟩ := h; exact (h.2.2.2.2).2
theorem rIns.open {N : Nat} {F : PH} {v : Value} {m : D.Ins} (h : (rInsN N).ra F v m) : ∃ c3,v = .agg #[.int .i64 m.Op,.int .i64 m.Dst,.int .i64 m.Two,c3,.int .i32 m.Imm] ∧ (rLn N (rI .i64)).rv F c3 m.Args := by
 obtain ⟨l,rfl,hl,h⟩ := h
 match l,hl with
 | [a0,a1,a2,a3,a4],_ =>
   obtain ⟨⟨h0,_⟩,⟨h1,_⟩,⟨h2,_⟩,h3,⟨h4,_⟩⟩ := h
   obtain rfl : a0 = _ := h0
   obtain rfl : a1 = _ := h1
   obtain rfl : a2 = _ := h2
   obtain rfl : a4 = _ := h4
   exact ⟨a3,rfl,h3⟩
theorem rIns.mk {N : Nat} {F : PH} {m : D.Ins} {c3 : Value} (h3 : (rLn N (rI .i64)).rv F c3 m.Args) (w0 : IntKind.i64.wrap m.Op = m.Op) (w1 : IntKind.i64.wrap m.Dst = m.Dst) (w2 : IntKind.i64.wrap m.Two = m.Two) (w4 : IntKind.i32.wrap m.Imm = m.Imm) : (rInsN N).ra F (.agg #[.int .i64 m.Op,.int .i64 m.Dst,.int .i64 m.Two,c3,.int .i32 m.Imm]) m := ⟨[.int .i64 m.Op,.int .i64 m.Dst,.int .i64 m.Two,c3,.int .i32 m.Imm],rfl,rfl,⟨⟨rfl,w0⟩,⟨rfl,w1⟩,⟨rfl,w2⟩,h3,⟨rfl,w4⟩⟩⟩
structure D.Term where
 Kind : Int
 Args : List Int
 To : List Int
 Imm : Int
deriving DecidableEq
instance : Inhabited D.Term := ⟨⟨0,[],[],0⟩⟩
def rTermN (N : Nat) : Rp D.Term := rM (rP (rI .i64) (rP (rLn N (rI .i64)) (rP (rLn N (rI .i64)) (rI .i32)))) (fun m => (m.Kind,m.Args,m.To,m.Imm))
abbrev rTerm : Rp D.Term := rTermN 1073741824
theorem rTerm.at_To {N : Nat} {F : PH} {b o : Nat} {m : D.Term} (h : At F (rTermN N) b o m) : At F (rLn N (rI .i64)) b (o + 2) m.To := At.part 2 h (Nat.le_of_ble_eq_true rfl) (fun _ h => h.2.2.1)
theorem rTerm.any {N : Nat} {F : PH} {v : Value} {m : D.Term} (h : (rTermN N).ra F v m) : ∃ f,(rTermN N).ok F m f := by obtain ⟨l,_,_,h⟩ := h; exact ⟨_,h⟩
theorem rTerm.w_Kind {N : Nat} {F : PH} {m : D.Term} (h : ∃ f,(rTermN N).ok F m f) : IntKind.i64.wrap m.Kind = m.Kind := by obtain ⟨_,h⟩ := h; exact (h.1).2
theorem rTerm.w_Imm {N : Nat} {F : PH} {m : D.Term} (h : ∃ f,(rTermN N).ok F m f) : IntKind.i32.wrap m.Imm = m.Imm := by obtain ⟨_,h⟩ := h; exact (h.2.2.2).2
theorem rTerm.open {N : Nat} {F : PH} {v : Value} {m : D.Term} (h : (rTermN N).ra F v m) : ∃ c1 c2,v = .agg #[.int .i64 m.Kind,c1,c2,.int .i32 m.Imm] ∧ (rLn N (rI .i64)).rv F c1 m.Args ∧ (rLn N (rI .i64)).rv F c2 m.To := by
 obtain ⟨l,rfl,hl,h⟩ := h
 match l,hl with
 | [a0,a1,a2,a3],_ =>
   obtain ⟨⟨h0,_⟩,h1,h2,⟨h3,_⟩⟩ := h
   obtain rfl : a0 = _ := h0
   obtain rfl : a3 = _ := h3
   exact ⟨a1,a2,rfl,h1,h2⟩
theorem rTerm.mk {N : Nat} {F : PH} {m : D.Term} {c1 : Value} {c2 : Value} (h1 : (rLn N (rI .i64)).rv F c1 m.Args) (h2 : (rLn N (rI .i64)).rv F c2 m.To) (w0 : IntKind.i64.wrap m.Kind = m.Kind) (w3 : IntKind.i32.wrap m.Imm = m.Imm) : (rTermN N).ra F (.agg #[.int .i64 m.Kind,c1,c2,.int .i32 m.Imm]) m := ⟨[.int .i64 m.Kind,c1,c2,.int .i32 m.Imm],rfl,rfl,⟨⟨rfl,w0⟩,h1,h2,⟨rfl,w3⟩⟩⟩
structure D.Block where
 Phis : List D.Phi
 Ins : List D.Ins
 Term : D.Term
deriving DecidableEq
instance : Inhabited D.Block := ⟨⟨[],[],default⟩⟩
def rBlockN (N : Nat) : Rp D.Block := rM (rP (rLn N (rPhiN N)) (rP (rLn N (rInsN N)) (rTermN N))) (fun m => (m.Phis,m.Ins,m.Term))
abbrev rBlock : Rp D.Block := rBlockN 1073741824
theorem rBlock.at_Ins {N : Nat} {F : PH} {b o : Nat} {m : D.Block} (h : At F (rBlockN N) b o m) : At F (rLn N (rInsN N)) b (o + 1) m.Ins := At.part 1 h (Nat.le_of_ble_eq_true rfl) (fun _ h => h.2.1)
theorem rBlock.at_Term {N : Nat} {F : PH} {b o : Nat} {m : D.Block} (h : At F (rBlockN N) b o m) : At F (rTermN N) b (o + 2) m.Term := At.part 2 h (Nat.le_of_ble_eq_true rfl) (fun _ h => h.2.2)
theorem rBlock.any {N : Nat} {F : PH} {v : Value} {m : D.Block} (h : (rBlockN N).ra F v m) : ∃ f,(rBlockN N).ok F m f := by obtain ⟨l,_,_,h⟩ := h; exact ⟨_,h⟩
theorem rBlock.k_Term {N : Nat} {F : PH} {m : D.Block} (h : ∃ f,(rBlockN N).ok F m f) : ∃ f,(rTermN N).ok F m.Term f := by obtain ⟨_,h⟩ := h; exact ⟨_,h.2.2⟩
theorem rBlock.open {N : Nat} {F : PH} {v : Value} {m : D.Block} (h : (rBlockN N).ra F v m) : ∃ c0 c1 c3 c4,v = .agg #[c0,c1,.int .i64 m.Term.Kind,c3,c4,.int .i32 m.Term.Imm] ∧ (rLn N (rPhiN N)).rv F c0 m.Phis ∧ (rLn N (rInsN N)).rv F c1 m.Ins ∧ (rLn N (rI .i64)).rv F c3 m.Term.Args ∧ (rLn N (rI .i64)).rv F c4 m.Term.To := by
 obtain ⟨l,rfl,hl,h⟩ := h
 match l,hl with
 | [a0,a1,a2,a3,a4,a5],_ =>
   obtain ⟨h0,h1,⟨⟨h2,_⟩,h3,h4,⟨h5,_⟩⟩⟩ := h
   obtain rfl : a2 = _ := h2
   obtain rfl : a5 = _ := h5
   exact ⟨a0,a1,a3,a4,rfl,h0,h1,h3,h4⟩
theorem rBlock.mk {N : Nat} {F : PH} {m : D.Block} {c0 : Value} {c1 : Value} {c3 : Value} {c4 : Value} (h0 : (rLn N (rPhiN N)).rv F c0 m.Phis) (h1 : (rLn N (rInsN N)).rv F c1 m.Ins) (h3 : (rLn N (rI .i64)).rv F c3 m.Term.Args) (h4 : (rLn N (rI .i64)).rv F c4 m.Term.To) (w2 : IntKind.i64.wrap m.Term.Kind = m.Term.Kind) (w5 : IntKind.i32.wrap m.Term.Imm = m.Term.Imm) : (rBlockN N).ra F (.agg #[c0,c1,.int .i64 m.Term.Kind,c3,c4,.int .i32 m.Term.Imm]) m := ⟨[c0,c1,.int .i64 m.Term.Kind,c3,c4,.int .i32 m.Term.Imm],rfl,rfl,⟨h0,h1,⟨⟨rfl,w2⟩,h3,h4,⟨rfl,w5⟩⟩⟩⟩
structure D.Func where
 Params : Int
 Blocks : List D.Block
deriving DecidableEq
instance : Inhabited D.Func := ⟨⟨0,[]⟩⟩
def rFuncN (N : Nat) : Rp D.Func := rM (rP (rI .i64) (rLn N (rBlockN N))) (fun m => (m.Params,m.Blocks))
abbrev rFunc : Rp D.Func := rFuncN 1073741824
theorem rFunc.any {N : Nat} {F : PH} {v : Value} {m : D.Func} (h : (rFuncN N).ra F v m) : ∃ f,(rFuncN N).ok F m f := by obtain ⟨l,_,_,h⟩ := h; exact ⟨_,h⟩
theorem rFunc.w_Params {N : Nat} {F : PH} {m : D.Func} (h : ∃ f,(rFuncN N).ok F m f) : IntKind.i64.wrap m.Params = m.Params := by obtain ⟨_,h⟩ := h; exact (h.1).2
theorem rFunc.open {N : Nat} {F : PH} {v : Value} {m : D.Func} (h : (rFuncN N).ra F v m) : ∃ c1,v = .agg #[.int .i64 m.Params,c1] ∧ (rLn N (rBlockN N)).rv F c1 m.Blocks := by
 obtain ⟨l,rfl,hl,h⟩ := h
 match l,hl with
 | [a0,a1],_ =>
   obtain ⟨⟨h0,_⟩,h1⟩ := h
   obtain rfl : a0 = _ := h0
   exact ⟨a1,rfl,h1⟩
theorem rFunc.mk {N : Nat} {F : PH} {m : D.Func} {c1 : Value} (h1 : (rLn N (rBlockN N)).rv F c1 m.Blocks) (w0 : IntKind.i64.wrap m.Params = m.Params) : (rFuncN N).ra F (.agg #[.int .i64 m.Params,c1]) m := ⟨[.int .i64 m.Params,c1],rfl,rfl,⟨⟨rfl,w0⟩,h1⟩⟩
structure D.Tg3 where
 Block : Int
 Place : Int
 Makes : List Int
 Takes : List Int
deriving DecidableEq
instance : Inhabited D.Tg3 := ⟨⟨0,0,[],[]⟩⟩
def rTg3N (N : Nat) : Rp D.Tg3 := rM (rP (rI .i64) (rP (rI .i64) (rP (rLn N (rI .i64)) (rLn N (rI .i64))))) (fun m => (m.Block,m.Place,m.Makes,m.Takes))
abbrev rTg3 : Rp D.Tg3 := rTg3N 1073741824
theorem rTg3.at_Block {N : Nat} {F : PH} {b o : Nat} {m : D.Tg3} (h : At F (rTg3N N) b o m) : At F (rI .i64) b (o + 0) m.Block := At.part 0 h (Nat.le_of_ble_eq_true rfl) (fun _ h => h.1)
theorem rTg3.at_Makes {N : Nat} {F : PH} {b o : Nat} {m : D.Tg3} (h : At F (rTg3N N) b o m) : At F (rLn N (rI .i64)) b (o + 2) m.Makes := At.part 2 h (Nat.le_of_ble_eq_true rfl) (fun _ h => h.2.2.1)
theorem rTg3.any {N : Nat} {F : PH} {v : Value} {m : D.Tg3} (h : (rTg3N N).ra F v m) : ∃ f,(rTg3N N).ok F m f := by obtain ⟨l,_,_,h⟩ := h; exact ⟨_,h⟩
theorem rTg3.open {N : Nat} {F : PH} {v : Value} {m : D.Tg3} (h : (rTg3N N).ra F v m) : ∃ c2 c3,v = .agg #[.int .i64 m.Block,.int .i64 m.Place,c2,c3] ∧ (rLn N (rI .i64)).rv F c2 m.Makes ∧ (rLn N (rI .i64)).rv F c3 m.Takes := by
 obtain ⟨l,rfl,hl,h⟩ := h
 match l,hl with
 | [a0,a1,a2,a3],_ =>
   obtain ⟨⟨h0,_⟩,⟨h1,_⟩,h2,h3⟩ := h
   obtain rfl : a0 = _ := h0
   obtain rfl : a1 = _ := h1
   exact ⟨a2,a3,rfl,h2,h3⟩
theorem rTg3.mk {N : Nat} {F : PH} {m : D.Tg3} {c2 : Value} {c3 : Value} (h2 : (rLn N (rI .i64)).rv F c2 m.Makes) (h3 : (rLn N (rI .i64)).rv F c3 m.Takes) (w0 : IntKind.i64.wrap m.Block = m.Block) (w1 : IntKind.i64.wrap m.Place = m.Place) : (rTg3N N).ra F (.agg #[.int .i64 m.Block,.int .i64 m.Place,c2,c3]) m := ⟨[.int .i64 m.Block,.int .i64 m.Place,c2,c3],rfl,rfl,⟨⟨rfl,w0⟩,⟨rfl,w1⟩,h2,h3⟩⟩
@[reducible] def vIn (m : D.In) (c : Unit) : Value := .agg #[.int .i64 m.From,.int .i64 m.Val]
theorem sIn : Sr rIn vIn := ⟨fun h => ⟨(),rIn.open h⟩⟩
theorem rIn.A_From {Γ : List Dt} {L : List Res} {b o : Nat} {m : D.In} (h : Nd Γ L (ad rIn b o m)) : Nd Γ L (ad (rI .i64) b (o + 0) m.From) := fun F H x y z => rIn.at_From (h F H x y z)
theorem rIn.A_Val {Γ : List Dt} {L : List Res} {b o : Nat} {m : D.In} (h : Nd Γ L (ad rIn b o m)) : Nd Γ L (ad (rI .i64) b (o + 1) m.Val) := fun F H x y z => rIn.at_Val (h F H x y z)
theorem rIn.M {Γ : List Dt} {L : List Res} {m : D.In} {c : Unit}  (w0 : Wr Γ L .i64 m.From) (w1 : Wr Γ L .i64 m.Val) : Nd Γ L (da rIn (vIn m c) m) := fun F H x y z => rIn.mk (m := m) (w0 F H x y z) (w1 F H x y z)
@[reducible] def vPhi (m : D.Phi) (c : Value) : Value := .agg #[.int .i64 m.Dst,c]
theorem sPhi {N : Nat} : Sr (rPhiN N) vPhi := ⟨fun h => by obtain ⟨c1,e,_⟩ := rPhi.open h; exact ⟨c1,e⟩⟩
theorem rPhi.c_In {N : Nat} {Γ : List Dt} {L : List Res} {m : D.Phi} {c : Value} (h : Nd Γ L (da (rPhiN N) (vPhi m c) m)) : Nd Γ L (dv (rLn N rIn) c m.In) := fun F H x y z => leaf1 rfl ((ra_ok (h F H x y z)).2) rfl
theorem rPhi.W_Dst {N : Nat} {Γ : List Dt} {L : List Res} {v : Value} {m : D.Phi} (h : Nd Γ L (da (rPhiN N) v m)) : Wr Γ L .i64 m.Dst := fun F H x y z => rPhi.w_Dst (m := m) (rPhi.any (h F H x y z))
theorem rPhi.A_Dst {N : Nat} {Γ : List Dt} {L : List Res} {b o : Nat} {m : D.Phi} (h : Nd Γ L (ad (rPhiN N) b o m)) : Nd Γ L (ad (rI .i64) b (o + 0) m.Dst) := fun F H x y z => rPhi.at_Dst (h F H x y z)
theorem rPhi.A_In {N : Nat} {Γ : List Dt} {L : List Res} {b o : Nat} {m : D.Phi} (h : Nd Γ L (ad (rPhiN N) b o m)) : Nd Γ L (ad (rLn N rIn) b (o + 1) m.In) := fun F H x y z => rPhi.at_In (h F H x y z)
theorem rPhi.M {N : Nat} {Γ : List Dt} {L : List Res} {m : D.Phi} {c : Value} (h0 : Nd Γ L (dv (rLn N rIn) c m.In)) (w0 : Wr Γ L .i64 m.Dst) : Nd Γ L (da (rPhiN N) (vPhi m c) m) := fun F H x y z => rPhi.mk (m := m) (h0 F H x y z) (w0 F H x y z)
@[reducible] def vInput (m : D.Input) (c : Value × Value × Value) : Value := .agg #[c.1,c.2.1,c.2.2,.int .i64 m.Steps]
theorem sInput {N : Nat} : Sr (rInputN N) vInput := ⟨fun h => by obtain ⟨c0,c1,c2,e,_,_,_⟩ := rInput.open h; exact ⟨(c0,c1,c2),e⟩⟩
theorem rInput.c_Args {N : Nat} {Γ : List Dt} {L : List Res} {m : D.Input} {c : Value × Value × Value} (h : Nd Γ L (da (rInputN N) (vInput m c) m)) : Nd Γ L (dv (rLn N (rI .i32)) c.1 m.Args) := fun F H x y z => leaf1 rfl ((ra_ok (h F H x y z)).1) rfl
theorem rInput.c_Mem {N : Nat} {Γ : List Dt} {L : List Res} {m : D.Input} {c : Value × Value × Value} (h : Nd Γ L (da (rInputN N) (vInput m c) m)) : Nd Γ L (dv (rLn N (rI .i32)) c.2.1 m.Mem) := fun F H x y z => leaf1 rfl ((ra_ok (h F H x y z)).2.1) rfl
theorem rInput.c_Answers {N : Nat} {Γ : List Dt} {L : List Res} {m : D.Input} {c : Value × Value × Value} (h : Nd Γ L (da (rInputN N) (vInput m c) m)) : Nd Γ L (dv (rLn N (rI .i32)) c.2.2 m.Answers) := fun F H x y z => leaf1 rfl ((ra_ok (h F H x y z)).2.2.1) rfl
theorem rInput.M {N : Nat} {Γ : List Dt} {L : List Res} {m : D.Input} {c : Value × Value × Value} (h0 : Nd Γ L (dv (rLn N (rI .i32)) c.1 m.Args)) (h1 : Nd Γ L (dv (rLn N (rI .i32)) c.2.1 m.Mem)) (h2 : Nd Γ L (dv (rLn N (rI .i32)) c.2.2 m.Answers)) (w0 : Wr Γ L .i64 m.Steps) : Nd Γ L (da (rInputN N) (vInput m c) m) := fun F H x y z => rInput.mk (m := m) (h0 F H x y z) (h1 F H x y z) (h2 F H x y z) (w0 F H x y z)
theorem rEvent.A_Callee {N : Nat} {Γ : List Dt} {L : List Res} {b o : Nat} {m : D.Event} (h : Nd Γ L (ad (rEventN N) b o m)) : Nd Γ L (ad (rI .i32) b (o + 0) m.Callee) := fun F H x y z => rEvent.at_Callee (h F H x y z)
theorem rEvent.A_Args {N : Nat} {Γ : List Dt} {L : List Res} {b o : Nat} {m : D.Event} (h : Nd Γ L (ad (rEventN N) b o m)) : Nd Γ L (ad (rLn N (rI .i32)) b (o + 1) m.Args) := fun F H x y z => rEvent.at_Args (h F H x y z)
@[reducible] def vOutcome (m : D.Outcome) (c : Value × Value) : Value := .agg #[.int .i64 m.End,.int .i32 m.Val,c.1,c.2,.int .i64 m.Steps]
theorem sOutcome {N : Nat} : Sr (rOutcomeN N) vOutcome := ⟨fun h => by obtain ⟨c2,c3,e,_,_⟩ := rOutcome.open h; exact ⟨(c2,c3),e⟩⟩
theorem rOutcome.c_Mem {N : Nat} {Γ : List Dt} {L : List Res} {m : D.Outcome} {c : Value × Value} (h : Nd Γ L (da (rOutcomeN N) (vOutcome m c) m)) : Nd Γ L (dv (rLn N (rI .i32)) c.1 m.Mem) := fun F H x y z => leaf1 rfl ((ra_ok (h F H x y z)).2.2.1) rfl
theorem rOutcome.c_Calls {N : Nat} {Γ : List Dt} {L : List Res} {m : D.Outcome} {c : Value × Value} (h : Nd Γ L (da (rOutcomeN N) (vOutcome m c) m)) : Nd Γ L (dv (rLn N (rEventN N)) c.2 m.Calls) := fun F H x y z => leaf1 rfl ((ra_ok (h F H x y z)).2.2.2.1) rfl
theorem rOutcome.W_End {N : Nat} {Γ : List Dt} {L : List Res} {v : Value} {m : D.Outcome} (h : Nd Γ L (da (rOutcomeN N) v m)) : Wr Γ L .i64 m.End := fun F H x y z => rOutcome.w_End (m := m) (rOutcome.any (h F H x y z))
theorem rOutcome.W_Val {N : Nat} {Γ : List Dt} {L : List Res} {v : Value} {m : D.Outcome} (h : Nd Γ L (da (rOutcomeN N) v m)) : Wr Γ L .i32 m.Val := fun F H x y z => rOutcome.w_Val (m := m) (rOutcome.any (h F H x y z))
theorem rOutcome.W_Steps {N : Nat} {Γ : List Dt} {L : List Res} {v : Value} {m : D.Outcome} (h : Nd Γ L (da (rOutcomeN N) v m)) : Wr Γ L .i64 m.Steps := fun F H x y z => rOutcome.w_Steps (m := m) (rOutcome.any (h F H x y z))
theorem rOutcome.M {N : Nat} {Γ : List Dt} {L : List Res} {m : D.Outcome} {c : Value × Value} (h0 : Nd Γ L (dv (rLn N (rI .i32)) c.1 m.Mem)) (h1 : Nd Γ L (dv (rLn N (rEventN N)) c.2 m.Calls)) (w0 : Wr Γ L .i64 m.End) (w1 : Wr Γ L .i32 m.Val) (w2 : Wr Γ L .i64 m.Steps) : Nd Γ L (da (rOutcomeN N) (vOutcome m c) m) := fun F H x y z => rOutcome.mk (m := m) (h0 F H x y z) (h1 F H x y z) (w0 F H x y z) (w1 F H x y z) (w2 F H x y z)
@[reducible] def vIns (m : D.Ins) (c : Value) : Value := .agg #[.int .i64 m.Op,.int .i64 m.Dst,.int .i64 m.Two,c,.int .i32 m.Imm]
theorem sIns {N : Nat} : Sr (rInsN N) vIns := ⟨fun h => by obtain ⟨c3,e,_⟩ := rIns.open h; exact ⟨c3,e⟩⟩
theorem rIns.c_Args {N : Nat} {Γ : List Dt} {L : List Res} {m : D.Ins} {c : Value} (h : Nd Γ L (da (rInsN N) (vIns m c) m)) : Nd Γ L (dv (rLn N (rI .i64)) c m.Args) := fun F H x y z => leaf1 rfl ((ra_ok (h F H x y z)).2.2.2.1) rfl
theorem rIns.W_Dst {N : Nat} {Γ : List Dt} {L : List Res} {v : Value} {m : D.Ins} (h : Nd Γ L (da (rInsN N) v m)) : Wr Γ L .i64 m.Dst := fun F H x y z => rIns.w_Dst (m := m) (rIns.any (h F H x y z))
theorem rIns.W_Two {N : Nat} {Γ : List Dt} {L : List Res} {v : Value} {m : D.Ins} (h : Nd Γ L (da (rInsN N) v m)) : Wr Γ L .i64 m.Two := fun F H x y z => rIns.w_Two (m := m) (rIns.any (h F H x y z))
theorem rIns.W_Imm {N : Nat} {Γ : List Dt} {L : List Res} {v : Value} {m : D.Ins} (h : Nd Γ L (da (rInsN N) v m)) : Wr Γ L .i32 m.Imm := fun F H x y z => rIns.w_Imm (m := m) (rIns.any (h F H x y z))
theorem rIns.A_Op {N : Nat} {Γ : List Dt} {L : List Res} {b o : Nat} {m : D.Ins} (h : Nd Γ L (ad (rInsN N) b o m)) : Nd Γ L (ad (rI .i64) b (o + 0) m.Op) := fun F H x y z => rIns.at_Op (h F H x y z)
theorem rIns.A_Dst {N : Nat} {Γ : List Dt} {L : List Res} {b o : Nat} {m : D.Ins} (h : Nd Γ L (ad (rInsN N) b o m)) : Nd Γ L (ad (rI .i64) b (o + 1) m.Dst) := fun F H x y z => rIns.at_Dst (h F H x y z)
theorem rIns.A_Two {N : Nat} {Γ : List Dt} {L : List Res} {b o : Nat} {m : D.Ins} (h : Nd Γ L (ad (rInsN N) b o m)) : Nd Γ L (ad (rI .i64) b (o + 2) m.Two) := fun F H x y z => rIns.at_Two (h F H x y z)
theorem rIns.A_Args {N : Nat} {Γ : List Dt} {L : List Res} {b o : Nat} {m : D.Ins} (h : Nd Γ L (ad (rInsN N) b o m)) : Nd Γ L (ad (rLn N (rI .i64)) b (o + 3) m.Args) := fun F H x y z => rIns.at_Args (h F H x y z)
theorem rIns.A_Imm {N : Nat} {Γ : List Dt} {L : List Res} {b o : Nat} {m : D.Ins} (h : Nd Γ L (ad (rInsN N) b o m)) : Nd Γ L (ad (rI .i32) b (o + 4) m.Imm) := fun F H x y z => rIns.at_Imm (h F H x y z)
theorem rIns.M {N : Nat} {Γ : List Dt} {L : List Res} {m : D.Ins} {c : Value} (h0 : Nd Γ L (dv (rLn N (rI .i64)) c m.Args)) (w0 : Wr Γ L .i64 m.Op) (w1 : Wr Γ L .i64 m.Dst) (w2 : Wr Γ L .i64 m.Two) (w3 : Wr Γ L .i32 m.Imm) : Nd Γ L (da (rInsN N) (vIns m c) m) := fun F H x y z => rIns.mk (m := m) (h0 F H x y z) (w0 F H x y z) (w1 F H x y z) (w2 F H x y z) (w3 F H x y z)
@[reducible] def vTerm (m : D.Term) (c : Value × Value) : Value := .agg #[.int .i64 m.Kind,c.1,c.2,.int .i32 m.Imm]
theorem sTerm {N : Nat} : Sr (rTermN N) vTerm := ⟨fun h => by obtain ⟨c1,c2,e,_,_⟩ := rTerm.open h; exact ⟨(c1,c2),e⟩⟩
theorem rTerm.c_Args {N : Nat} {Γ : List Dt} {L : List Res} {m : D.Term} {c : Value × Value} (h : Nd Γ L (da (rTermN N) (vTerm m c) m)) : Nd Γ L (dv (rLn N (rI .i64)) c.1 m.Args) := fun F H x y z => leaf1 rfl ((ra_ok (h F H x y z)).2.1) rfl
theorem rTerm.c_To {N : Nat} {Γ : List Dt} {L : List Res} {m : D.Term} {c : Value × Value} (h : Nd Γ L (da (rTermN N) (vTerm m c) m)) : Nd Γ L (dv (rLn N (rI .i64)) c.2 m.To) := fun F H x y z => leaf1 rfl ((ra_ok (h F H x y z)).2.2.1) rfl
theorem rTerm.W_Kind {N : Nat} {Γ : List Dt} {L : List Res} {v : Value} {m : D.Term} (h : Nd Γ L (da (rTermN N) v m)) : Wr Γ L .i64 m.Kind := fun F H x y z => rTerm.w_Kind (m := m) (rTerm.any (h F H x y z))
theorem rTerm.W_Imm {N : Nat} {Γ : List Dt} {L : List Res} {v : Value} {m : D.Term} (h : Nd Γ L (da (rTermN N) v m)) : Wr Γ L .i32 m.Imm := fun F H x y z => rTerm.w_Imm (m := m) (rTerm.any (h F H x y z))
theorem rTerm.A_To {N : Nat} {Γ : List Dt} {L : List Res} {b o : Nat} {m : D.Term} (h : Nd Γ L (ad (rTermN N) b o m)) : Nd Γ L (ad (rLn N (rI .i64)) b (o + 2) m.To) := fun F H x y z => rTerm.at_To (h F H x y z)
theorem rTerm.M {N : Nat} {Γ : List Dt} {L : List Res} {m : D.Term} {c : Value × Value} (h0 : Nd Γ L (dv (rLn N (rI .i64)) c.1 m.Args)) (h1 : Nd Γ L (dv (rLn N (rI .i64)) c.2 m.To)) (w0 : Wr Γ L .i64 m.Kind) (w1 : Wr Γ L .i32 m.Imm) : Nd Γ L (da (rTermN N) (vTerm m c) m) := fun F H x y z => rTerm.mk (m := m) (h0 F H x y z) (h1 F H x y z) (w0 F H x y z) (w1 F H x y z)
@[reducible] def vBlock (m : D.Block) (c : Value × Value × Value × Value) : Value := .agg #[c.1,c.2.1,.int .i64 m.Term.Kind,c.2.2.1,c.2.2.2,.int .i32 m.Term.Imm]
theorem sBlock {N : Nat} : Sr (rBlockN N) vBlock := ⟨fun h => by obtain ⟨c0,c1,c3,c4,e,_,_,_,_⟩ := rBlock.open h; exact ⟨(c0,c1,c3,c4),e⟩⟩
theorem rBlock.cP {N : Nat} {Γ : List Dt} {L : List Res} {m : D.Block} {c : Value × Value × Value × Value} (h : Nd Γ L (da (rBlockN N) (vBlock m c) m)) : Nd Γ L (dv (rLn N (rPhiN N)) c.1 m.Phis) := fun F H x y z => leaf1 rfl ((ra_ok (h F H x y z)).1) rfl
theorem rBlock.cI {N : Nat} {Γ : List Dt} {L : List Res} {m : D.Block} {c : Value × Value × Value × Value} (h : Nd Γ L (da (rBlockN N) (vBlock m c) m)) : Nd Γ L (dv (rLn N (rInsN N)) c.2.1 m.Ins) := fun F H x y z => leaf1 rfl ((ra_ok (h F H x y z)).2.1) rfl
theorem rBlock.c_Term_Args {N : Nat} {Γ : List Dt} {L : List Res} {m : D.Block} {c : Value × Value × Value × Value} (h : Nd Γ L (da (rBlockN N) (vBlock m c) m)) : Nd Γ L (dv (rLn N (rI .i64)) c.2.2.1 m.Term.Args) := fun F H x y z => leaf1 rfl ((ra_ok (h F H x y z)).2.2.2.1) rfl
theorem rBlock.c_Term_To {N : Nat} {Γ : List Dt} {L : List Res} {m : D.Block} {c : Value × Value × Value × Value} (h : Nd Γ L (da (rBlockN N) (vBlock m c) m)) : Nd Γ L (dv (rLn N (rI .i64)) c.2.2.2 m.Term.To) := fun F H x y z => leaf1 rfl ((ra_ok (h F H x y z)).2.2.2.2.1) rfl
theorem rBlock.W_Term_Kind {N : Nat} {Γ : List Dt} {L : List Res} {v : Value} {m : D.Block} (h : Nd Γ L (da (rBlockN N) v m)) : Wr Γ L .i64 m.Term.Kind := fun F H x y z => rTerm.w_Kind (m := m.Term) (rBlock.k_Term (m := m) (rBlock.any (h F H x y z)))
theorem rBlock.W_Term_Imm {N : Nat} {Γ : List Dt} {L : List Res} {v : Value} {m : D.Block} (h : Nd Γ L (da (rBlockN N) v m)) : Wr Γ L .i32 m.Term.Imm := fun F H x y z => rTerm.w_Imm (m := m.Term) (rBlock.k_Term (m := m) (rBlock.any (h F H x y z)))
theorem rBlock.A_Ins {N : Nat} {Γ : List Dt} {L : List Res} {b o : Nat} {m : D.Block} (h : Nd Γ L (ad (rBlockN N) b o m)) : Nd Γ L (ad (rLn N (rInsN N)) b (o + 1) m.Ins) := fun F H x y z => rBlock.at_Ins (h F H x y z)
theorem rBlock.A_Term {N : Nat} {Γ : List Dt} {L : List Res} {b o : Nat} {m : D.Block} (h : Nd Γ L (ad (rBlockN N) b o m)) : Nd Γ L (ad (rTermN N) b (o + 2) m.Term) := fun F H x y z => rBlock.at_Term (h F H x y z)
theorem rBlock.P_Term {N : Nat} {Γ : List Dt} {L : List Res} {m : D.Block} {c : Value × Value × Value × Value} (h : Nd Γ L (da (rBlockN N) (vBlock m c) m)) : Nd Γ L (da (rTermN N) (vTerm m.Term (c.2.2.1,c.2.2.2)) m.Term) := rTerm.M (m := m.Term) (c := (c.2.2.1,c.2.2.2)) (rBlock.c_Term_Args h) (rBlock.c_Term_To h) (rBlock.W_Term_Kind h) (rBlock.W_Term_Imm h)
theorem rBlock.M {N : Nat} {Γ : List Dt} {L : List Res} {m : D.Block} {c : Value × Value × Value × Value} (h0 : Nd Γ L (dv (rLn N (rPhiN N)) c.1 m.Phis)) (h1 : Nd Γ L (dv (rLn N (rInsN N)) c.2.1 m.Ins)) (h2 : Nd Γ L (dv (rLn N (rI .i64)) c.2.2.1 m.Term.Args)) (h3 : Nd Γ L (dv (rLn N (rI .i64)) c.2.2.2 m.Term.To)) (w0 : Wr Γ L .i64 m.Term.Kind) (w1 : Wr Γ L .i32 m.Term.Imm) : Nd Γ L (da (rBlockN N) (vBlock m c) m) := fun F H x y z => rBlock.mk (m := m) (h0 F H x y z) (h1 F H x y z) (h2 F H x y z) (h3 F H x y z) (w0 F H x y z) (w1 F H x y z)
@[reducible] def vFunc (m : D.Func) (c : Value) : Value := .agg #[.int .i64 m.Params,c]
theorem sFunc {N : Nat} : Sr (rFuncN N) vFunc := ⟨fun h => by obtain ⟨c1,e,_⟩ := rFunc.open h; exact ⟨c1,e⟩⟩
theorem rFunc.cB {N : Nat} {Γ : List Dt} {L : List Res} {m : D.Func} {c : Value} (h : Nd Γ L (da (rFuncN N) (vFunc m c) m)) : Nd Γ L (dv (rLn N (rBlockN N)) c m.Blocks) := fun F H x y z => leaf1 rfl ((ra_ok (h F H x y z)).2) rfl
theorem rFunc.W_Params {N : Nat} {Γ : List Dt} {L : List Res} {v : Value} {m : D.Func} (h : Nd Γ L (da (rFuncN N) v m)) : Wr Γ L .i64 m.Params := fun F H x y z => rFunc.w_Params (m := m) (rFunc.any (h F H x y z))
theorem rFunc.M {N : Nat} {Γ : List Dt} {L : List Res} {m : D.Func} {c : Value} (h0 : Nd Γ L (dv (rLn N (rBlockN N)) c m.Blocks)) (w0 : Wr Γ L .i64 m.Params) : Nd Γ L (da (rFuncN N) (vFunc m c) m) := fun F H x y z => rFunc.mk (m := m) (h0 F H x y z) (w0 F H x y z)
@[reducible] def vTg3 (m : D.Tg3) (c : Value × Value) : Value := .agg #[.int .i64 m.Block,.int .i64 m.Place,c.1,c.2]
theorem sTg3 {N : Nat} : Sr (rTg3N N) vTg3 := ⟨fun h => by obtain ⟨c2,c3,e,_,_⟩ := rTg3.open h; exact ⟨(c2,c3),e⟩⟩
theorem rTg3.A_Block {N : Nat} {Γ : List Dt} {L : List Res} {b o : Nat} {m : D.Tg3} (h : Nd Γ L (ad (rTg3N N) b o m)) : Nd Γ L (ad (rI .i64) b (o + 0) m.Block) := fun F H x y z => rTg3.at_Block (h F H x y z)
theorem rTg3.A_Makes {N : Nat} {Γ : List Dt} {L : List Res} {b o : Nat} {m : D.Tg3} (h : Nd Γ L (ad (rTg3N N) b o m)) : Nd Γ L (ad (rLn N (rI .i64)) b (o + 2) m.Makes) := fun F H x y z => rTg3.at_Makes (h F H x y z)
theorem rTg3.M {N : Nat} {Γ : List Dt} {L : List Res} {m : D.Tg3} {c : Value × Value} (h0 : Nd Γ L (dv (rLn N (rI .i64)) c.1 m.Makes)) (h1 : Nd Γ L (dv (rLn N (rI .i64)) c.2 m.Takes)) (w0 : Wr Γ L .i64 m.Block) (w1 : Wr Γ L .i64 m.Place) : Nd Γ L (da (rTg3N N) (vTg3 m c) m) := fun F H x y z => rTg3.mk (m := m) (h0 F H x y z) (h1 F H x y z) (w0 F H x y z) (w1 F H x y z)
def bitM (b : Bool) : Int := if b then 1 else 0
abbrev w32 (n : Int) : Int := IntKind.i32.wrap n
abbrev u32 (n : Int) : Int := IntKind.u32.wrap n
def shlM (a b : Int) : Int := w32 (a * 2 ^ (b % 32).toNat)
def shrM (a b : Int) : Int := w32 ((u32 a).fdiv (2 ^ (b % 32).toNat))
def sarM (a b : Int) : Int := a.fdiv (2 ^ (b % 32).toNat)
def divM (a b : Int) : Int := w32 (a.tdiv b)
def doM (op a b : Int) : Int × Bool :=
 if op = 2 then (w32 (a + b),true)
 else if op = 3 then (w32 (a - b),true)
 else if op = 4 then (w32 (a * b),true)
 else if op = 5 then (andI .i32 a b,true)
 else if op = 6 then (orI .i32 a b,true)
 else if op = 7 then (xorI .i32 a b,true)
 else if op = 8 then (shlM a b,true)
 else if op = 9 then (shrM a b,true)
 else if op = 10 then (sarM a b,true)
 else if op = 11 then (bitM (decide (a = b)),true)
 else if op = 12 then (bitM (decide (a < b)),true)
 else if op = 13 then (bitM (decide (u32 a < u32 b)),true)
 else if op = 14 then (if b = 0 then (0,false) else (divM a b,true))
 else (0,false)
def wideM (a b : Int) : Int × Int := (w32 (a * b),w32 ((a * b).fdiv 4294967296))
def fitsM (n bits : Int) : Bool := if bits < 1 then decide (n = 0) else if 32 < bits then true else decide (-(2 ^ (bits - 1).toNat) ≤ n ∧ n < 2 ^ (bits - 1).toNat)
theorem b32 (b : Int) : IntKind.u32.wrap b % 32 = b % 32 := by rw [IntKind.wrap_u32]; omega
theorem tmod32 (b : Int) : Int.tmod (IntKind.u32.wrap b) 32 = b % 32 := by rw [Int.tmod_eq_emod_of_nonneg (u32_nn b),b32]
theorem min32 (b : Int) : min (b % 32).toNat 32 = (b % 32).toNat := by omega
theorem shl_prog (a b : Int) : shlI .i32 a (Int.tmod (IntKind.u32.wrap b) 32) = shlM a b := by
 rw [tmod32]; unfold shlI shlM
 show w32 (a * 2 ^ (min (b % 32).toNat 32)) = _
 rw [min32]
theorem shr_prog (a b : Int) : IntKind.i32.wrap (shrI .u32 (IntKind.u32.wrap a) (Int.tmod (IntKind.u32.wrap b) 32)) = shrM a b := by
 rw [tmod32]; unfold shrI shrM
 show w32 ((u32 a).fdiv (2 ^ (min (b % 32).toNat 32))) = _
 rw [min32]
theorem sar_prog (a b : Int) : shrI .i32 a (Int.tmod (IntKind.u32.wrap b) 32) = sarM a b := by
 rw [tmod32]; unfold shrI sarM
 show a.fdiv (2 ^ (min (b % 32).toNat 32)) = _
 rw [min32]
theorem mul_rng {a b : Int} (ha : -2147483648 ≤ a ∧ a ≤ 2147483647) (hb : -2147483648 ≤ b ∧ b ≤ 2147483647) : -4611686018427387904 ≤ a * b ∧ a * b ≤ 4611686018427387904 := by
 have h1 : (a * b).natAbs = a.natAbs * b.natAbs := Int.natAbs_mul a b
 have h2 : a.natAbs * b.natAbs ≤ 2147483648 * 2147483648 := Nat.mul_le_mul (by omega) (by omega)
 omega
abbrev U155 := @Tryz.underlying155
abbrev U2 := @Tryz.underlying2
abbrev U21 := @Tryz.underlying21
theorem wbit_ct (b : Bool) : Tv Tryz.prog 152 #[.bool b] [] [] (.int .i32 (bitM b)) := by
 refine jenter (args := [.bool b]) Tryz.func152 rfl rfl rfl fun w0 X => ?_
 refine jq (jr (ja Z (jn (jx (jq (jq (jr (jm Z (jn (jx ?_))))))))))
 refine jif Z (fun hc1 => ?_) (fun hc1 => ?_)
 refine jq (jr (ja Z (jn (jx (jrt (jtr ?_))))))
 exact jrI Z Z (by first | (simp [bitM,hc1]; done) | (unfold bitM; (repeat' split) <;> first | rfl | (exfalso; omega) | (simp [bitM,hc1]; done)))
 refine jsk (jx (jq (jr (ja Z (jn (jx (jrt ?_)))))))
 exact jrI Z Z (by first | (simp [bitM,hc1]; done) | (unfold bitM; (repeat' split) <;> first | rfl | (exfalso; omega) | (simp [bitM,hc1]; done)))
abbrev U136 := @Tryz.underlying136
abbrev U201 := @Tryz.underlying201
abbrev U3 := @Tryz.underlying3
theorem E142 : Ent Tryz.prog 142 := ⟨_,Tryz.func142,by kernel_rfl,by kernel_rfl⟩
theorem E143 : Ent Tryz.prog 143 := ⟨_,Tryz.func143,by kernel_rfl,by kernel_rfl⟩
theorem E144 : Ent Tryz.prog 144 := ⟨_,Tryz.func144,by kernel_rfl,by kernel_rfl⟩
theorem E145 : Ent Tryz.prog 145 := ⟨_,Tryz.func145,by kernel_rfl,by kernel_rfl⟩
theorem E146 : Ent Tryz.prog 146 := ⟨_,Tryz.func146,by kernel_rfl,by kernel_rfl⟩
theorem E147 : Ent Tryz.prog 147 := ⟨_,Tryz.func147,by kernel_rfl,by kernel_rfl⟩
theorem E148 : Ent Tryz.prog 148 := ⟨_,Tryz.func148,by kernel_rfl,by kernel_rfl⟩
theorem E149 : Ent Tryz.prog 149 := ⟨_,Tryz.func149,by kernel_rfl,by kernel_rfl⟩
theorem E150 : Ent Tryz.prog 150 := ⟨_,Tryz.func150,by kernel_rfl,by kernel_rfl⟩
theorem E151 : Ent Tryz.prog 151 := ⟨_,Tryz.func151,by kernel_rfl,by kernel_rfl⟩
theorem E152 : Ent Tryz.prog 152 := ⟨_,Tryz.func152,by kernel_rfl,by kernel_rfl⟩
theorem E153 : Ent Tryz.prog 153 := ⟨_,Tryz.func153,by kernel_rfl,by kernel_rfl⟩
theorem E154 : Ent Tryz.prog 154 := ⟨_,Tryz.func154,by kernel_rfl,by kernel_rfl⟩
theorem E155 : Ent Tryz.prog 155 := ⟨_,Tryz.func155,by kernel_rfl,by kernel_rfl⟩
theorem O155 : One Tryz.prog 155 := ⟨_,Tryz.underlying155,rfl⟩
theorem O21 : One Tryz.prog 21 := ⟨_,Tryz.underlying21,rfl⟩
theorem Z155 : Sz Tryz.prog 155 1 := by unfold Sz; kernel_rfl
theorem J136 : (Tryz.prog.info? 136).bind (·.zero) = some (.nilFunc) := by kernel_rfl
theorem J155 : (Tryz.prog.info? 155).bind (·.zero) = some (.int .u32 0) := by kernel_rfl
theorem wDo1_ct (a : Int) {g0 : Nat} (b : Int) {g1 : Nat} : Tr Tryz.prog 142 #[.pointer (some ⟨g0,0,none⟩),.pointer (some ⟨g1,0,none⟩)] [] [bx g0 21 [.int .i32 a],bx g1 21 [.int .i32 b]] (fun _ : Unit => .int .i32 (w32 (a + b))) (fun _ => []) (fun _ _ => [bx g0 21 [.int .i32 a],bx g1 21 [.int .i32 b]]) := by
 refine jenter (args := [.pointer (some ⟨g0,0,none⟩),.pointer (some ⟨g1,0,none⟩)]) Tryz.func142 rfl rfl rfl fun w0 X => ?_
 refine jq (jr (ja Z (jn (jx (jq (jr (js (jl k0 O21 Z Z) (js (jl k1 O21 Z Z) (js (jaddw Z Z) (ja Z (jn ?_)))))))))))
 refine jx (jrt ?_)
 exact jr1 Z Z () (congrArg (Value.int .i32) (Eq.symm (by first | rfl | (simp [shl_prog,shr_prog,sar_prog]; done)))) dn (fun _ _ => (kd kn))
theorem wDo2_ct (a : Int) {g0 : Nat} (b : Int) {g1 : Nat} : Tr Tryz.prog 143 #[.pointer (some ⟨g0,0,none⟩),.pointer (some ⟨g1,0,none⟩)] [] [bx g0 21 [.int .i32 a],bx g1 21 [.int .i32 b]] (fun _ : Unit => .int .i32 (w32 (a - b))) (fun _ => []) (fun _ _ => [bx g0 21 [.int .i32 a],bx g1 21 [.int .i32 b]]) := by
 refine jenter (args := [.pointer (some ⟨g0,0,none⟩),.pointer (some ⟨g1,0,none⟩)]) Tryz.func143 rfl rfl rfl fun w0 X => ?_
 refine jq (jr (ja Z (jn (jx (jq (jr (js (jl k0 O21 Z Z) (js (jl k1 O21 Z Z) (js (jsubw Z Z) (ja Z (jn ?_)))))))))))
 refine jx (jrt ?_)
 exact jr1 Z Z () (congrArg (Value.int .i32) (Eq.symm (by first | rfl | (simp [shl_prog,shr_prog,sar_prog]; done)))) dn (fun _ _ => (kd kn))
theorem wDo3_ct (a : Int) {g0 : Nat} (b : Int) {g1 : Nat} : Tr Tryz.prog 144 #[.pointer (some ⟨g0,0,none⟩),.pointer (some ⟨g1,0,none⟩)] [] [bx g0 21 [.int .i32 a],bx g1 21 [.int .i32 b]] (fun _ : Unit => .int .i32 (w32 (a * b))) (fun _ => []) (fun _ _ => [bx g0 21 [.int .i32 a],bx g1 21 [.int .i32 b]]) := by
 refine jenter (args := [.pointer (some ⟨g0,0,none⟩),.pointer (some ⟨g1,0,none⟩)]) Tryz.func144 rfl rfl rfl fun w0 X => ?_
 refine jq (jr (ja Z (jn (jx (jq (jr (js (jl k0 O21 Z Z) (js (jl k1 O21 Z Z) (js (jmulw Z Z) (ja Z (jn ?_)))))))))))
 refine jx (jrt ?_)
 exact jr1 Z Z () (congrArg (Value.int .i32) (Eq.symm (by first | rfl | (simp [shl_prog,shr_prog,sar_prog]; done)))) dn (fun _ _ => (kd kn))
theorem wDo4_ct (a : Int) {g0 : Nat} (b : Int) {g1 : Nat} : Tr Tryz.prog 145 #[.pointer (some ⟨g0,0,none⟩),.pointer (some ⟨g1,0,none⟩)] [] [bx g0 21 [.int .i32 a],bx g1 21 [.int .i32 b]] (fun _ : Unit => .int .i32 (andI .i32 a b)) (fun _ => []) (fun _ _ => [bx g0 21 [.int .i32 a],bx g1 21 [.int .i32 b]]) := by
 refine jenter (args := [.pointer (some ⟨g0,0,none⟩),.pointer (some ⟨g1,0,none⟩)]) Tryz.func145 rfl rfl rfl fun w0 X => ?_
 refine jq (jr (ja Z (jn (jx (jq (jr (js (jl k0 O21 Z Z) (js (jl k1 O21 Z Z) (js (jandw Z Z) (ja Z (jn ?_)))))))))))
 refine jx (jrt ?_)
 exact jr1 Z Z () (congrArg (Value.int .i32) (Eq.symm (by first | rfl | (simp [shl_prog,shr_prog,sar_prog]; done)))) dn (fun _ _ => (kd kn))
theorem wDo5_ct (a : Int) {g0 : Nat} (b : Int) {g1 : Nat} : Tr Tryz.prog 146 #[.pointer (some ⟨g0,0,none⟩),.pointer (some ⟨g1,0,none⟩)] [] [bx g0 21 [.int .i32 a],bx g1 21 [.int .i32 b]] (fun _ : Unit => .int .i32 (orI .i32 a b)) (fun _ => []) (fun _ _ => [bx g0 21 [.int .i32 a],bx g1 21 [.int .i32 b]]) := by
 refine jenter (args := [.pointer (some ⟨g0,0,none⟩),.pointer (some ⟨g1,0,none⟩)]) Tryz.func146 rfl rfl rfl fun w0 X => ?_
 refine jq (jr (ja Z (jn (jx (jq (jr (js (jl k0 O21 Z Z) (js (jl k1 O21 Z Z) (js (jorw Z Z) (ja Z (jn ?_)))))))))))
 refine jx (jrt ?_)
 exact jr1 Z Z () (congrArg (Value.int .i32) (Eq.symm (by first | rfl | (simp [shl_prog,shr_prog,sar_prog]; done)))) dn (fun _ _ => (kd kn))
theorem wDo6_ct (a : Int) {g0 : Nat} (b : Int) {g1 : Nat} : Tr Tryz.prog 147 #[.pointer (some ⟨g0,0,none⟩),.pointer (some ⟨g1,0,none⟩)] [] [bx g0 21 [.int .i32 a],bx g1 21 [.int .i32 b]] (fun _ : Unit => .int .i32 (xorI .i32 a b)) (fun _ => []) (fun _ _ => [bx g0 21 [.int .i32 a],bx g1 21 [.int .i32 b]]) := by
 refine jenter (args := [.pointer (some ⟨g0,0,none⟩),.pointer (some ⟨g1,0,none⟩)]) Tryz.func147 rfl rfl rfl fun w0 X => ?_
 refine jq (jr (ja Z (jn (jx (jq (jr (js (jl k0 O21 Z Z) (js (jl k1 O21 Z Z) (js (jxorw Z Z) (ja Z (jn ?_)))))))))))
 refine jx (jrt ?_)
 exact jr1 Z Z () (congrArg (Value.int .i32) (Eq.symm (by first | rfl | (simp [shl_prog,shr_prog,sar_prog]; done)))) dn (fun _ _ => (kd kn))
theorem wDo7_ct (a : Int) {g0 : Nat} (b : Int) {g1 : Nat} : Tr Tryz.prog 148 #[.pointer (some ⟨g0,0,none⟩),.pointer (some ⟨g1,0,none⟩)] [] [bx g0 21 [.int .i32 a],bx g1 155 [.int .u32 (Int.tmod (IntKind.u32.wrap b) 32)]] (fun _ : Unit => .int .i32 (shlM a b)) (fun _ => []) (fun _ _ => [bx g0 21 [.int .i32 a],bx g1 155 [.int .u32 (Int.tmod (IntKind.u32.wrap b) 32)]]) := by
 refine jenter (args := [.pointer (some ⟨g0,0,none⟩),.pointer (some ⟨g1,0,none⟩)]) Tryz.func148 rfl rfl rfl fun w0 X => ?_
 refine jq (jr (ja Z (jn (jx (jq (jr (js (jl k0 O21 Z Z) (js (jl k1 O155 Z Z) (js (jshl Z Z (by rw [tmod32]; omega)) (ja Z (jn ?_)))))))))))
 refine jx (jrt ?_)
 exact jr1 Z Z () (congrArg (Value.int .i32) (Eq.symm (by first | rfl | (simp [shl_prog,shr_prog,sar_prog]; done)))) dn (fun _ _ => (kd kn))
theorem wDo8_ct (a : Int) {g0 : Nat} (b : Int) {g1 : Nat} : Tr Tryz.prog 149 #[.pointer (some ⟨g0,0,none⟩),.pointer (some ⟨g1,0,none⟩)] [] [bx g0 21 [.int .i32 a],bx g1 155 [.int .u32 (Int.tmod (IntKind.u32.wrap b) 32)]] (fun _ : Unit => .int .i32 (shrM a b)) (fun _ => []) (fun _ _ => [bx g0 21 [.int .i32 a],bx g1 155 [.int .u32 (Int.tmod (IntKind.u32.wrap b) 32)]]) := by
 refine jenter (args := [.pointer (some ⟨g0,0,none⟩),.pointer (some ⟨g1,0,none⟩)]) Tryz.func149 rfl rfl rfl fun w0 X => ?_
 refine jq (jr (ja Z (jn (jx (jq (jr (js (jl k0 O21 Z Z) (js (jco U21 U155 Z Z) (js (jl k1 O155 Z Z) (js (jshr Z Z (by rw [tmod32]; omega)) (js (jco U155 U21 Z Z) ?_)))))))))))
 refine ja Z (jn (jx (jrt ?_)))
 exact jr1 Z Z () (congrArg (Value.int .i32) (Eq.symm (by first | rfl | (simp [shl_prog,shr_prog,sar_prog]; done)))) dn (fun _ _ => (kd kn))
theorem wDo9_ct (a : Int) {g0 : Nat} (b : Int) {g1 : Nat} : Tr Tryz.prog 150 #[.pointer (some ⟨g0,0,none⟩),.pointer (some ⟨g1,0,none⟩)] [] [bx g0 21 [.int .i32 a],bx g1 155 [.int .u32 (Int.tmod (IntKind.u32.wrap b) 32)]] (fun _ : Unit => .int .i32 (sarM a b)) (fun _ => []) (fun _ _ => [bx g0 21 [.int .i32 a],bx g1 155 [.int .u32 (Int.tmod (IntKind.u32.wrap b) 32)]]) := by
 refine jenter (args := [.pointer (some ⟨g0,0,none⟩),.pointer (some ⟨g1,0,none⟩)]) Tryz.func150 rfl rfl rfl fun w0 X => ?_
 refine jq (jr (ja Z (jn (jx (jq (jr (js (jl k0 O21 Z Z) (js (jl k1 O155 Z Z) (js (jshr Z Z (by rw [tmod32]; omega)) (ja Z (jn ?_)))))))))))
 refine jx (jrt ?_)
 exact jr1 Z Z () (congrArg (Value.int .i32) (Eq.symm (by first | rfl | (simp [shl_prog,shr_prog,sar_prog]; done)))) dn (fun _ _ => (kd kn))
theorem wDo10_ct (a : Int) {g0 : Nat} (b : Int) {g1 : Nat} : Tr Tryz.prog 151 #[.pointer (some ⟨g0,0,none⟩),.pointer (some ⟨g1,0,none⟩)] [] [bx g0 21 [.int .i32 a],bx g1 21 [.int .i32 b]] (fun _ : Unit => .int .i32 (bitM (decide (a = b)))) (fun _ => []) (fun _ _ => [bx g0 21 [.int .i32 a],bx g1 21 [.int .i32 b]]) := by
 refine jenter (args := [.pointer (some ⟨g0,0,none⟩),.pointer (some ⟨g1,0,none⟩)]) Tryz.func151 rfl rfl rfl fun w0 X => ?_
 refine jq (jr (ja Z (jn (jx (jq (jr (js (jl k0 O21 Z Z) (js (jl k1 O21 Z Z) (js (jeql Z Z) (jcv E152 Z Z (wbit_ct (decide (a = b))) dn kn (ja Z ?_)))))))))))
 refine jn (jx (jrt ?_))
 exact jr1 Z Z () (congrArg (Value.int .i32) (Eq.symm (by first | rfl | (simp [shl_prog,shr_prog,sar_prog]; done)))) dn (fun _ _ => (kd kn))
theorem wDo11_ct (a : Int) {g0 : Nat} (b : Int) {g1 : Nat} : Tr Tryz.prog 153 #[.pointer (some ⟨g0,0,none⟩),.pointer (some ⟨g1,0,none⟩)] [] [bx g0 21 [.int .i32 a],bx g1 21 [.int .i32 b]] (fun _ : Unit => .int .i32 (bitM (decide (a < b)))) (fun _ => []) (fun _ _ => [bx g0 21 [.int .i32 a],bx g1 21 [.int .i32 b]]) := by
 refine jenter (args := [.pointer (some ⟨g0,0,none⟩),.pointer (some ⟨g1,0,none⟩)]) Tryz.func153 rfl rfl rfl fun w0 X => ?_
 refine jq (jr (ja Z (jn (jx (jq (jr (js (jl k0 O21 Z Z) (js (jl k1 O21 Z Z) (js (jlss Z Z) (jcv E152 Z Z (wbit_ct (decide (a < b))) dn kn (ja Z ?_)))))))))))
 refine jn (jx (jrt ?_))
 exact jr1 Z Z () (congrArg (Value.int .i32) (Eq.symm (by first | rfl | (simp [shl_prog,shr_prog,sar_prog]; done)))) dn (fun _ _ => (kd kn))
theorem wDo12_ct (a : Int) {g0 : Nat} (b : Int) {g1 : Nat} : Tr Tryz.prog 154 #[.pointer (some ⟨g0,0,none⟩),.pointer (some ⟨g1,0,none⟩)] [] [bx g0 21 [.int .i32 a],bx g1 21 [.int .i32 b]] (fun _ : Unit => .int .i32 (bitM (decide (u32 a < u32 b)))) (fun _ => []) (fun _ _ => [bx g0 21 [.int .i32 a],bx g1 21 [.int .i32 b]]) := by
 refine jenter (args := [.pointer (some ⟨g0,0,none⟩),.pointer (some ⟨g1,0,none⟩)]) Tryz.func154 rfl rfl rfl fun w0 X => ?_
 refine jq (jr (ja Z (jn (jx (jq (jr (js (jl k0 O21 Z Z) (js (jco U21 U155 Z Z) (js (jl k1 O21 Z Z) (js (jco U21 U155 Z Z) (js (jlss Z Z) ?_)))))))))))
 refine jcv E152 Z Z (wbit_ct (decide (IntKind.u32.wrap a < IntKind.u32.wrap b))) dn kn (ja Z (jn (jx (jrt ?_))))
 exact jr1 Z Z () (congrArg (Value.int .i32) (Eq.symm (by first | rfl | (simp [shl_prog,shr_prog,sar_prog]; done)))) dn (fun _ _ => (kd kn))
theorem wDo13_ct (a : Int) {g0 : Nat} (b : Int) {g1 : Nat} (hb : b ≠ 0) : Tr Tryz.prog 155 #[.pointer (some ⟨g0,0,none⟩),.pointer (some ⟨g1,0,none⟩)] [] [bx g0 21 [.int .i32 a],bx g1 21 [.int .i32 b]] (fun _ : Unit => .int .i32 (divM a b)) (fun _ => []) (fun _ _ => [bx g0 21 [.int .i32 a],bx g1 21 [.int .i32 b]]) := by
 refine jenter (args := [.pointer (some ⟨g0,0,none⟩),.pointer (some ⟨g1,0,none⟩)]) Tryz.func155 rfl rfl rfl fun w0 X => ?_
 refine jq (jr (ja Z (jn (jx (jq (jr (js (jl k0 O21 Z Z) (js (jl k1 O21 Z Z) (js (jquo Z Z hb) (ja Z (jn ?_)))))))))))
 refine jx (jrt ?_)
 exact jr1 Z Z () (congrArg (Value.int .i32) (Eq.symm (by first | rfl | (simp [shl_prog,shr_prog,sar_prog]; done)))) dn (fun _ _ => (kd kn))
theorem do_snd {op a b : Int} (h : 2 ≤ op ∧ op ≤ 14) (h2 : op = 14 → ¬ b = 0) : doM op a b = ((doM op a b).1,true) := by
 have hc : op = 2 ∨ op = 3 ∨ op = 4 ∨ op = 5 ∨ op = 6 ∨ op = 7 ∨ op = 8 ∨ op = 9 ∨ op = 10 ∨ op = 11 ∨ op = 12 ∨ op = 13 ∨ op = 14 := by omega
 rcases hc with rfl | rfl | rfl | rfl | rfl | rfl | rfl | rfl | rfl | rfl | rfl | rfl | rfl <;> first | rfl | (simp [doM,h2])
theorem Tr.perm {P : Program} {f : FuncId} {args : Array Value} {D0 : List Dt} {L0 : List Res} {ι : Type} {val : ι → Value} {dr : ι → List Dt} {lr lr' : Nat → ι → List Res} {M : Nat → ι → List Res} (h : Tr P f args D0 L0 val dr lr) (hk : ∀ B i,Tks (lr B i) (lr' B i) (M B i)) : Tr P f args D0 L0 val dr lr' := fun F H a b c =>
 (h F H a b c).mono fun v H' ⟨i,F',h1,h2⟩ => ⟨i,F',h1,fun B hB => by
   have h3 := h2 B hB
   exact ⟨h3.hx,h3.hin,h3.hw,h3.hd,((hk B i).ok h3.ok).1,fun k hk' => h3.ge k ((hk B i).own (.inl hk'))⟩⟩
section
variable {f : FuncId} {args : Array Value} {R1 R2 R3 : Res} {x y : Int}
theorem wdo_fr0 (h : Tr Tryz.prog f args [] [R1,R2] (fun _ : Unit => .int .i32 x) (fun _ => []) (fun _ _ => [R1,R2])) (e : y = x) : Tr Tryz.prog f args [] [R1,R2,R3] (fun _ : Unit => .int .i32 y) (fun _ => []) (fun _ _ => [R1,R2,R3]) := by
 subst e; exact Tr.fr h (kd kn)
theorem wdo_fr1 (h : Tr Tryz.prog f args [] [R1,R3] (fun _ : Unit => .int .i32 x) (fun _ => []) (fun _ _ => [R1,R3])) (e : y = x) : Tr Tryz.prog f args [] [R1,R2,R3] (fun _ : Unit => .int .i32 y) (fun _ => []) (fun _ _ => [R1,R2,R3]) := by
 subst e; exact Tr.perm (Tr.fr h (kc k0 (kc k1 kn))) (fun _ _ => kc k0 (kc k1 (kc k0 kn)))
end
theorem wtable_ct (a b op : Int) {g4 g5 g8 : Nat} {L : List (Int × Value)}
   (hL : L = [(2,.func (.func 142) #[] #[.pointer (some ⟨g4,0,none⟩),.pointer (some ⟨g5,0,none⟩)]),(3,.func (.func 143) #[] #[.pointer (some ⟨g4,0,none⟩),.pointer (some ⟨g5,0,none⟩)]),(4,.func (.func 144) #[] #[.pointer (some ⟨g4,0,none⟩),.pointer (some ⟨g5,0,none⟩)]),(5,.func (.func 145) #[] #[.pointer (some ⟨g4,0,none⟩),.pointer (some ⟨g5,0,none⟩)]),(6,.func (.func 146) #[] #[.pointer (some ⟨g4,0,none⟩),.pointer (some ⟨g5,0,none⟩)]),(7,.func (.func 147) #[] #[.pointer (some ⟨g4,0,none⟩),.pointer (some ⟨g5,0,none⟩)]),(8,.func (.func 148) #[] #[.pointer (some ⟨g4,0,none⟩),.pointer (some ⟨g8,0,none⟩)]),(9,.func (.func 149) #[] #[.pointer (some ⟨g4,0,none⟩),.pointer (some ⟨g8,0,none⟩)]),(10,.func (.func 150) #[] #[.pointer (some ⟨g4,0,none⟩),.pointer (some ⟨g8,0,none⟩)]),(11,.func (.func 151) #[] #[.pointer (some ⟨g4,0,none⟩),.pointer (some ⟨g5,0,none⟩)]),(12,.func (.func 153) #[] #[.pointer (some ⟨g4,0,none⟩),.pointer (some ⟨g5,0,none⟩)]),(13,.func (.func 154) #[] #[.pointer (some ⟨g4,0,none⟩),.pointer (some ⟨g5,0,none⟩)]),(14,.func (.func 155) #[] #[.pointer (some ⟨g4,0,none⟩),.pointer (some ⟨g5,0,none⟩)])] := by rfl) :
   ((lkM L op).getD .nilFunc = .nilFunc ∧ (op < 2 ∨ 14 < op)) ∨ ∃ (f : Nat) (cs : List Value),(lkM L op).getD .nilFunc = .func (.func f) #[] cs.toArray ∧ Ent Tryz.prog f ∧ (2 ≤ op ∧ op ≤ 14) ∧ ((op = 14 → b ≠ 0) → Tr Tryz.prog f cs.toArray [] [bx g4 21 [.int .i32 a],bx g5 21 [.int .i32 b],bx g8 155 [.int .u32 (Int.tmod (IntKind.u32.wrap b) 32)]] (fun _ : Unit => .int .i32 (doM op a b).1) (fun _ => []) (fun _ _ => [bx g4 21 [.int .i32 a],bx g5 21 [.int .i32 b],bx g8 155 [.int .u32 (Int.tmod (IntKind.u32.wrap b) 32)]])) := by
 subst hL
 by_cases ho : 2 ≤ op ∧ op ≤ 14
 · refine .inr ?_
   have hc : op = 2 ∨ op = 3 ∨ op = 4 ∨ op = 5 ∨ op = 6 ∨ op = 7 ∨ op = 8 ∨ op = 9 ∨ op = 10 ∨ op = 11 ∨ op = 12 ∨ op = 13 ∨ op = 14 := by omega
   rcases hc with rfl | rfl | rfl | rfl | rfl | rfl | rfl | rfl | rfl | rfl | rfl | rfl | rfl
   · exact ⟨_,[.pointer (some ⟨g4,0,none⟩),.pointer (some ⟨g5,0,none⟩)],rfl,E142,by omega,fun h9 => wdo_fr0 (wDo1_ct a b) rfl⟩
   · exact ⟨_,[.pointer (some ⟨g4,0,none⟩),.pointer (some ⟨g5,0,none⟩)],rfl,E143,by omega,fun h9 => wdo_fr0 (wDo2_ct a b) rfl⟩
   · exact ⟨_,[.pointer (some ⟨g4,0,none⟩),.pointer (some ⟨g5,0,none⟩)],rfl,E144,by omega,fun h9 => wdo_fr0 (wDo3_ct a b) rfl⟩
   · exact ⟨_,[.pointer (some ⟨g4,0,none⟩),.pointer (some ⟨g5,0,none⟩)],rfl,E145,by omega,fun h9 => wdo_fr0 (wDo4_ct a b) rfl⟩
   · exact ⟨_,[.pointer (some ⟨g4,0,none⟩),.pointer (some ⟨g5,0,none⟩)],rfl,E146,by omega,fun h9 => wdo_fr0 (wDo5_ct a b) rfl⟩
   · exact ⟨_,[.pointer (some ⟨g4,0,none⟩),.pointer (some ⟨g5,0,none⟩)],rfl,E147,by omega,fun h9 => wdo_fr0 (wDo6_ct a b) rfl⟩
   · exact ⟨_,[.pointer (some ⟨g4,0,none⟩),.pointer (some ⟨g8,0,none⟩)],rfl,E148,by omega,fun h9 => wdo_fr1 (wDo7_ct a b) rfl⟩
   · exact ⟨_,[.pointer (some ⟨g4,0,none⟩),.pointer (some ⟨g8,0,none⟩)],rfl,E149,by omega,fun h9 => wdo_fr1 (wDo8_ct a b) rfl⟩
   · exact ⟨_,[.pointer (some ⟨g4,0,none⟩),.pointer (some ⟨g8,0,none⟩)],rfl,E150,by omega,fun h9 => wdo_fr1 (wDo9_ct a b) rfl⟩
   · exact ⟨_,[.pointer (some ⟨g4,0,none⟩),.pointer (some ⟨g5,0,none⟩)],rfl,E151,by omega,fun h9 => wdo_fr0 (wDo10_ct a b) rfl⟩
   · exact ⟨_,[.pointer (some ⟨g4,0,none⟩),.pointer (some ⟨g5,0,none⟩)],rfl,E153,by omega,fun h9 => wdo_fr0 (wDo11_ct a b) rfl⟩
   · exact ⟨_,[.pointer (some ⟨g4,0,none⟩),.pointer (some ⟨g5,0,none⟩)],rfl,E154,by omega,fun h9 => wdo_fr0 (wDo12_ct a b) rfl⟩
   · exact ⟨_,[.pointer (some ⟨g4,0,none⟩),.pointer (some ⟨g5,0,none⟩)],rfl,E155,by omega,fun h9 => wdo_fr0 (wDo13_ct a b (h9 rfl)) (by simp [doM,h9 rfl])⟩
 · refine .inl ⟨?_,by omega⟩
   have h1 : ∀ k : Int,2 ≤ k → k ≤ 14 → (k == op) = false := fun k h2 h3 => by rw [beq_eq_false_iff_ne]; omega
   simp [lkM,List.find?,h1]
theorem wDo_ct (op : Int) (a : Int) (b : Int) : Tv Tryz.prog 84 #[.int .i64 op,.int .i32 a,.int .i32 b] [] [] (.tuple #[.int .i32 ((doM op a b).1),.bool ((doM op a b).2)]) := by
 refine jenter (args := [.int .i64 op,.int .i32 a,.int .i32 b]) Tryz.func84 rfl rfl rfl fun w0 X => ?_
 refine jq (jr (jbox Z Z fun g4 => jbox Z Z fun g5 => ja Z (ja Z (jn (jx (jq (jr (js (jl k0 O21 Z Z) (js (jco U21 U155 Z Z) ?_)))))))))
 refine js (jrem Z Z (by decide)) (jalc J155 Z fun g8 => jst k0 Z155 Z Z Z s0 (jn (jx (jq (jr (jmm fun g13 => js (jmf2 Z Z) (jin U201 U3 k0 Z Z Z Z (js (jmf2 Z Z) (jin U201 U3 k0 Z Z Z Z ?_)))))))))
 refine js (jmf2 Z Z) (jin U201 U3 k0 Z Z Z Z (js (jmf2 Z Z) (jin U201 U3 k0 Z Z Z Z (js (jmf2 Z Z) (jin U201 U3 k0 Z Z Z Z (js (jmf2 Z Z) (jin U201 U3 k0 Z Z Z Z (js (jmf2 Z Z) (jin U201 U3 k0 Z Z Z Z (js (jmf2 Z Z) (jin U201 U3 k0 Z Z Z Z ?_)))))))))))
 refine js (jmf2 Z Z) (jin U201 U3 k0 Z Z Z Z (js (jmf2 Z Z) (jin U201 U3 k0 Z Z Z Z (js (jmf2 Z Z) (jin U201 U3 k0 Z Z Z Z (js (jmf2 Z Z) (jin U201 U3 k0 Z Z Z Z (js (jmf2 Z Z) (jin U201 U3 k0 Z Z Z Z (jm Z (jm Z ?_)))))))))))
 refine jfk (p := fun v => (v = .nilFunc ∧ (op < 2 ∨ 14 < op)) ∨ ∃ (f : Nat) (cs : List Value),v = .func (.func f) #[] cs.toArray ∧ Ent Tryz.prog f ∧ (2 ≤ op ∧ op ≤ 14) ∧ ((op = 14 → b ≠ 0) → Tr Tryz.prog f cs.toArray [] [bx g4 21 [.int .i32 a],bx g5 21 [.int .i32 b],bx g8 155 [.int .u32 (Int.tmod (IntKind.u32.wrap b) 32)]] (fun _ : Unit => .int .i32 (doM op a b).1) (fun _ => []) (fun _ _ => [bx g4 21 [.int .i32 a],bx g5 21 [.int .i32 b],bx g8 155 [.int .u32 (Int.tmod (IntKind.u32.wrap b) 32)]]))) ⟨_,jlk U201 U3 J136 k0 Z Z,wtable_ct a b op⟩ ?_
 rintro v29 (⟨rfl,hop⟩ | ⟨f,cs,rfl,hE,hop,hct⟩)
 refine ja Z (jn (jx (jq (jq (jr (jm Z (js (jeqlN U136 Z Z) (jm Z (jg Z Z (.f _) (fun hg => jmv Z) (jg Z Z (.f _) (fun hg => jeql (evg Z hg) Z) (jg Z Z (.f _) (fun hg => jmv (evg Z hg)) ?_)))))))))))
 refine jg Z Z (.gt _ _) (fun hg => jl k2 O21 Z Z) (jg Z Z (.gt _ _) (fun hg => jeql (evg Z hg) Z) (jg Z Z (.f _) (fun hg => jand2 hg Z Z) (js (jor Z Z) (jn (jx ?_)))))
 refine jif Z (fun hc1 => ?_) (fun hc1 => ?_)
 refine jq (jr (ja Z (ja Z (jn (jx (jrt (jtr ?_)))))))
 exact jr2 Z Z Z () (tIB (by first | (unfold doM; (repeat rw [if_neg (by omega)]); done) | (simp at hc2; obtain ⟨rfl,rfl⟩ := hc2; rfl) | (simp at hc2; exact do_snd hop (fun h9 => hc2.resolve_left (fun h8 => h8 h9))))) dn (fun _ _ => kn)
 exact absurd hc1 (by simp)
 refine ja Z (jn (jx (jq (jq (jr (jm Z (js (jeqlF U136 Z Z) (jm Z (jk Z Z (.f _) (jmv Z) (jk Z Z (.f _) (jeql Z Z) (jk Z Z (.f _) (jmv Z) ?_)))))))))))
 refine jg Z Z (.t _) (fun hg => jl k2 O21 Z Z) (jg Z Z (.t _) (fun hg => jeql (evg Z hg) Z) (jk Z Z (.f _) (jand Z Z) (js (jor Z Z) (jn (jx ?_)))))
 refine jif Z (fun hc2 => ?_) (fun hc2 => ?_)
 refine jq (jr (ja Z (ja Z (jn (jx (jrt (jtr ?_)))))))
 exact jr2 Z Z Z () (tIB (by first | (unfold doM; (repeat rw [if_neg (by omega)]); done) | (simp at hc2; obtain ⟨rfl,rfl⟩ := hc2; rfl) | (simp at hc2; exact do_snd hop (fun h9 => hc2.resolve_left (fun h8 => h8 h9))))) dn (fun _ _ => kn)
 refine jsk (jx (jq (jr (jm Z (jc hE Z Z (hct (by omega)) dn (kc k3 (kc k2 (kc k1 kn))) (fun _ => p0) (fun _ => p3) fun _ => ja Z (ja Z (jn (jx (jrt ?_)))))))))
 exact jr2 Z Z Z () (tIB (by first | (unfold doM; (repeat rw [if_neg (by omega)]); done) | (simp at hc2; obtain ⟨rfl,rfl⟩ := hc2; rfl) | (simp at hc2; exact do_snd hop (fun h9 => hc2.resolve_left (fun h8 => h8 h9))))) dn (fun _ _ => kn)
abbrev U22 := @Tryz.underlying22
theorem I3 : (Tryz.prog.info? 3).map (fun i => (i.zero,i.size,i.bytes)) = some (some (.int .i64 0),1,8) := by kernel_rfl
theorem O22 : One Tryz.prog 22 := ⟨_,Tryz.underlying22,rfl⟩
theorem O3 : One Tryz.prog 3 := ⟨_,Tryz.underlying3,rfl⟩
def takesM (i : D.Mach) : List Int :=
 if i.Op = 1 ∨ 18 ≤ i.Op ∧ i.Op ≤ 22 ∨ i.Op = 24 ∨ i.Op = 31 then [i.A]
 else if i.Op = 2 ∨ 5 ≤ i.Op ∧ i.Op ≤ 17 ∨ i.Op = 25 ∨ i.Op = 26 ∨ i.Op = 29 then [i.A,i.B]
 else if i.Op = 23 ∨ i.Op = 27 then [i.A,i.B,i.C]
 else if i.Op = 28 then i.Args
 else []
def makesM (i : D.Mach) : List Int :=
 if i.Op = 2 then [i.A,i.B]
 else if i.Op = 29 then [i.D,i.E]
 else if i.Op = 26 ∨ i.Op = 27 ∨ i.Op = 31 ∨ i.Op < 1 ∨ 31 < i.Op then []
 else [i.D]
def nM9 (e : D.End) : List Int :=
 if e.Op = 2 ∨ e.Op = 6 ∨ e.Op = 7 ∧ 0 ≤ e.A then [e.A]
 else if e.Op = 3 ∨ e.Op = 4 ∨ e.Op = 5 then [e.A,e.B]
 else []
def regM : List Int → Bool
 | [] => true
 | x :: l => if x < 0 ∨ 8192 ≤ x then false else regM l
theorem Mixed : Tryz.prog.follows .mixedOrders = true := Checked.mixed Tryz.checked
end Go.Proofs.YtmfkkodnghambaaGreat
