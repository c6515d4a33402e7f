/- Lemmas that the claim is made of. Conditions: each lemma names its own. -/
import Derived.Test.YtehhjlkmbdhckaaGreatKD3
set_option linter.unusedSectionVars false
set_option linter.unusedSimpArgs false
set_option linter.unusedVariables false
namespace Go.Proofs.YtehhjlkmbdhckaaGreat
open Go.JE
theorem Z21 : Sz Tryz.prog 21 1 := by unfold Sz; kernel_rfl
def getM (regs : List Int) (r : Int) : Int := if r < 0 ∨ regs.length ≤ r then 0 else ix regs r.toNat
def setM (regs : List Int) (r v : Int) : List Int := if 0 ≤ r ∧ r < regs.length then regs.set r.toNat v else regs
def loadM (mem : List Int) (at' : Int) : Int × Bool := if at' < 0 ∨ mem.length ≤ at' then (0,false) else (ix mem at'.toNat,true)
def storeM (mem : List Int) (at' v : Int) : List Int := if at' < 0 ∨ mem.length ≤ at' then mem else mem.set at'.toNat v
def storeOk (mem : List Int) (at' _x : Int) : Bool := (loadM mem at').2
def memM (i : D.Input) : List Int := i.Mem.take 4096
def goesM (e : D.End) (regs : List Int) : Int :=
 if e.Op = 1 then 0
 else if e.Op = 2 then (if getM regs e.A ≠ 0 then 0 else 1)
 else if e.Op = 3 then (if getM regs e.A = getM regs e.B then 0 else 1)
 else if e.Op = 4 then (if getM regs e.A < getM regs e.B then 0 else 1)
 else if e.Op = 5 then (if u32 (getM regs e.A) < u32 (getM regs e.B) then 0 else 1)
 else if e.Op = 6 then (if u32 (getM regs e.A) < e.To.length - 1 then u32 (getM regs e.A) else e.To.length - 1)
 else -1
def immOp (op : Int) : Int := ix [2,5,8,9,10] (op - 18).toNat
def stepM (i : D.Mach) (regs mem : List Int) : (Int × Bool) × List Int × List Int :=
 if i.Op = 1 then ((0,true),setM regs i.D (getM regs i.A),mem)
 else if i.Op = 2 then ((0,true),setM (setM regs i.A (getM regs i.B)) i.B (getM regs i.A),mem)
 else if i.Op = 3 ∨ i.Op = 4 then ((0,true),setM regs i.D i.Imm,mem)
 else if 5 ≤ i.Op ∧ i.Op ≤ 17 then
   if (doM (i.Op - 5 + 2) (getM regs i.A) (getM regs i.B)).2 = true then ((0,true),setM regs i.D (doM (i.Op - 5 + 2) (getM regs i.A) (getM regs i.B)).1,mem) else ((-1,false),regs,mem)
 else if 18 ≤ i.Op ∧ i.Op ≤ 22 then ((0,true),setM regs i.D (doM (immOp i.Op) (getM regs i.A) i.Imm).1,mem)
 else if i.Op = 23 then ((0,true),setM regs i.D (w32 (w32 (getM regs i.A * getM regs i.B) + getM regs i.C)),mem)
 else if i.Op = 24 then
   if (loadM mem (w32 (getM regs i.A + i.Imm))).2 = true then ((0,true),setM regs i.D (loadM mem (w32 (getM regs i.A + i.Imm))).1,mem) else ((-2,false),regs,mem)
 else if i.Op = 25 then
   if (loadM mem (w32 (getM regs i.A + getM regs i.B))).2 = true then ((0,true),setM regs i.D (loadM mem (w32 (getM regs i.A + getM regs i.B))).1,mem) else ((-2,false),regs,mem)
 else if i.Op = 26 then
   ((if storeOk mem (w32 (getM regs i.A + i.Imm)) (getM regs i.B) = true then (0,true) else (-2,false)),regs,storeM mem (w32 (getM regs i.A + i.Imm)) (getM regs i.B))
 else if i.Op = 27 then
   ((if storeOk mem (w32 (getM regs i.A + getM regs i.B)) (getM regs i.C) = true then (0,true) else (-2,false)),regs,storeM mem (w32 (getM regs i.A + getM regs i.B)) (getM regs i.C))
 else if i.Op = 29 then ((0,true),setM (setM regs i.D (wideM (getM regs i.A) (getM regs i.B)).1) i.E (wideM (getM regs i.A) (getM regs i.B)).2,mem)
 else ((0,true),regs,mem)
theorem take_min {α : Type} (l : List α) (n : Nat) (m : Int) (h : m = n) : l.take n = l.take (Int.toNat (min (↑l.length) m)) := by
 subst h
 rcases Nat.le_total l.length n with h | h
 · rw [List.take_of_length_le h,List.take_of_length_le (by omega)]
 · congr 1; omega
theorem F35_3 : Fld Tryz.prog 35 3 3 := ⟨_,_,Tryz.underlying35,rfl,rfl,1,(by unfold Sz; kernel_rfl),by decide⟩
theorem E31 : Ent Tryz.prog 31 := ⟨_,Tryz.func31,by kernel_rfl,by kernel_rfl⟩
theorem F69_6 : Fld Tryz.prog 69 6 6 := ⟨_,_,Tryz.underlying69,rfl,rfl,1,(by unfold Sz; kernel_rfl),by decide⟩
end Go.Proofs.YtehhjlkmbdhckaaGreat
namespace Go.JE
variable {P : Program} {D D0 D1 E : List Dt} {L M N Ls L0 : List Res} {e : Env} {X : Cx} {n : Fs} {w0 : World} {Q : Exit → Act → World → Prop}
def it (Ls : List Res) : Res where
 sat F H := Ok F H Ls
 own k := Own Ls k
 lt := Ok.lt
 no := Ok.no
 st := fun hl hs h1 h2 h => Ok.st hl hs h1 h2 h
def dl (E : List Dt) : Dt := ⟨fun F => AllD F E,fun hl h => h.up hl⟩
theorem db {d : List Dt} (h : Sd D L d) : Nd D L (dl d) := h
theorem Ok.un {F : PH} {H : Heap} : Ok F H (it Ls :: M) ↔ Ok F H (Ls ++ M) := by
 induction Ls with
 | nil => exact ⟨fun h => h.2.2,fun h => ⟨trivial,fun _ h => h.elim,h⟩⟩
 | cons R Ls ih =>
   constructor
   · rintro ⟨⟨a,b,c⟩,d,f⟩
     have := ih.1 ⟨c,fun k hk => d k (.inr hk),f⟩
     exact ⟨a,fun k hk ho => (Own.app.1 ho).elim (b k hk) (d k (.inl hk)),this⟩
   · rintro ⟨a,b,c⟩
     obtain ⟨c1,c2,c3⟩ := ih.2 c
     exact ⟨⟨a,fun k hk ho => b k hk (Own.app.2 (.inl ho)),c1⟩,fun k hk ho => hk.elim (fun h => b k h (Own.app.2 (.inr ho))) (fun h => c2 k h ho),c3⟩
theorem Own.un {k : Nat} : Own (it Ls :: M) k ↔ Own (Ls ++ M) k := ⟨fun h => Own.app.2 h,fun h => Own.app.1 h⟩
theorem Tks.it (h : Tks L Ls M) : Tks L [it Ls] M where
 ok := fun o => by
   obtain ⟨a,b,c⟩ := h.ok o
   exact ⟨⟨a,fun _ _ => id,trivial⟩,b,fun k hk => c k (hk.resolve_right id)⟩
 own := fun o => h.own (o.imp (·.resolve_right id) id)
theorem Hp.unit {F : PH} {H : Heap} (h : Hp X D (JE.it Ls :: M) F H) : Hp X D (Ls ++ M) F H := ⟨h.hx,h.hin,h.hw,h.hd,Ok.un.1 h.ok,fun k hk => h.ge k (Own.un.2 hk)⟩
section
variable {ops : Array Oper} {d : Nat} {ty : TypeId} {pos : String} {af : Array Edge} {rest : List Oper} {f : FuncId} {g : Operand} {xs : List Operand} {vs cs : List Value} {args : Array Value} {ts : Array TypeId} {ι : Type} {val : ι → Value} {dr : ι → List Dt} {lr : Nat → ι → List Res} {v : Value}
abbrev Pd (P : Program) (f : FuncId) (args : Array Value) (D0 : List Dt) (Ls : List Res) (b : Bool) : Prop := Tr P f args D0 [it Ls] (fun _ : Unit => .bool b) (fun _ => []) (fun _ _ => [it Ls])
theorem Tr.it {D2 : List Dt} (h : Tr P f args D0 Ls val dr (fun _ _ => Ls)) (hd : ∀ {F : PH},AllD F D2 → AllD F D0) : Tr P f args D2 [it Ls] val dr (fun _ _ => [JE.it Ls]) := fun F H hin hD ho =>
 (h F H hin (hd hD) ho.1).mono fun v H' ⟨i,F',h1,h2⟩ => ⟨i,F',h1,fun B hB => by
   have h3 := h2 B hB
   refine ⟨h3.hx,h3.hin,⟨h3.hw.1,fun k h1 h4 => h3.hw.2 k h1 (fun h5 => h4 (.inl h5))⟩,h3.hd,⟨h3.ok,fun _ _ => id,trivial⟩,fun k hk => (h3.ge k (hk.resolve_right id)).imp id .inl⟩⟩
theorem i1 {F : PH} {d : Dt} : AllD F [dl [d]] → AllD F [d] := fun h => h.1
theorem i0 {F : PH} {D2 : List Dt} : AllD F D2 → AllD F [] := fun _ => trivial
theorem il {F : PH} {c : Dt} {E : List Dt} : AllD F [c,dl E] → AllD F (c :: E) := fun h => ⟨h.1,h.2.1⟩
theorem ir {F : PH} {c : Dt} {E : List Dt} : AllD F [c,dl E] → AllD F [c] := fun h => ⟨h.1,trivial⟩
theorem jcp (hE : Ent P f) (hf : ev e g = some (.func (.func f) #[] cs.toArray)) (hl : evl e xs = some vs) (hT : Tr P f (vs ++ cs).toArray D0 [it Ls] (fun _ : Unit => v) (fun _ => []) (fun _ _ => [it Ls])) (hd : Sd D L D0) (hk : Tks L Ls M) (hq : Ap Ls M N)
   (k : LH P n w0 ops Q X D N ((d,v) :: e) rest) (hd1 : Nat.blt d n.sz = true := by rfl) : LH P n w0 ops Q X D L e (⟨some d,.call { callee := .value g,args := xs.toArray,argTypes := ts },ty,pos,af,none⟩ :: rest) :=
 jc hE hf hl hT hd hk.it (fun _ => rfl) (fun _ => rfl) (fun _ F H h => k F H (hq ▸ h.unit)) hd1
theorem jgcp {j t : Nat} {want B : Bool} {u : Value} (hj : (ops[j]?).bind (·.dst) = some t) (hu : lk e t = some u) (hB : Gd u want B) (hE : Ent P f) (hf : ev e g = some (.func (.func f) #[] cs.toArray)) (hl : B = true → evl e xs = some vs) (hT : B = true → Tr P f (vs ++ cs).toArray D0 [it Ls] (fun _ : Unit => v) (fun _ => []) (fun _ _ => [it Ls])) (hd : B = true → Sd D L D0) (hk : Tks L Ls M) (hq : Ap Ls M N)
   (k : LH P n w0 ops Q X D N ((d,gv B v) :: e) rest) (hd1 : Nat.blt d n.sz = true := by rfl) (ht : Nat.blt t n.sz = true := by rfl) : LH P n w0 ops Q X D L e (⟨some d,.call { callee := .value g,args := xs.toArray,argTypes := ts },ty,pos,af,some (j,want)⟩ :: rest) :=
 jgc hj hu hB hE hf hl hT hd hk.it rfl (fun F H h => k F H (hq ▸ h.unit)) hd1 ht
end
end Go.JE
namespace Go.Proofs.YtehhjlkmbdhckaaGreat
open Go.JE
abbrev U32 := @Tryz.underlying32
abbrev U60 := @Tryz.underlying60
theorem A62 : ∃ d,Tryz.prog.underlying 62 = some d ∧ (match d with | .struct _ | .array _ _ => true | _ => false) = true := ⟨_,Tryz.underlying62,rfl⟩
theorem A64 : ∃ d,Tryz.prog.underlying 64 = some d ∧ (match d with | .struct _ | .array _ _ => true | _ => false) = true := ⟨_,Tryz.underlying64,rfl⟩
theorem E166 : Ent Tryz.prog 166 := ⟨_,Tryz.func166,by kernel_rfl,by kernel_rfl⟩
theorem E168 : Ent Tryz.prog 168 := ⟨_,Tryz.func168,by kernel_rfl,by kernel_rfl⟩
theorem E83 : Ent Tryz.prog 83 := ⟨_,Tryz.func83,by kernel_rfl,by kernel_rfl⟩
theorem Z62 : Sz Tryz.prog 62 2 := by unfold Sz; kernel_rfl
theorem Z64 : Sz Tryz.prog 64 2 := by unfold Sz; kernel_rfl
def idxM {α : Type} (l : List α) (q : α → Bool) : Int := match l.findIdx? q with
 | some i => i
 | none => -1
def anyM {α : Type} (l : List α) (q : α → Bool) : Bool := l.any q
theorem idx_hit {α : Type} [Inhabited α] {l : List α} {q : α → Bool} {k : Nat} (hk : k < l.length) (h : ∀ x ∈ l.take k,q x = false) (h1 : q (ix l k) = true) : idxM l q = k := by
 have : l.findIdx? q = some k := by
   rw [List.findIdx?_eq_some_iff_getElem]
   refine ⟨hk,by rw [← ix_eq hk]; exact h1,fun j hj => ?_⟩
   have := h l[j] (by rw [List.mem_take_iff_getElem]; exact ⟨j,by omega,rfl⟩)
   simp [this]
 simp [idxM,this]
theorem idx_none {α : Type} {l : List α} {q : α → Bool} {k : Nat} (hk : l.length ≤ k) (h : ∀ x ∈ l.take k,q x = false) : idxM l q = -1 := by
 rw [List.take_of_length_le hk] at h
 have : l.findIdx? q = none := by rw [List.findIdx?_eq_none_iff]; exact h
 simp [idxM,this]
theorem idx_any {α : Type} (l : List α) (q : α → Bool) : decide (0 ≤ idxM l q) = anyM l q := by
 unfold idxM anyM
 cases h : l.findIdx? q with
 | none =>
   rw [List.findIdx?_eq_none_iff] at h
   have : l.any q = false := by rw [List.any_eq_false]; intro x hx; simp [h x hx]
   rw [this]; rfl
 | some i =>
   obtain ⟨hi,h1,_⟩ := List.findIdx?_eq_some_iff_getElem.1 h
   have : l.any q = true := List.any_eq_true.2 ⟨_,List.getElem_mem hi,h1⟩
   rw [this]; simp
theorem no_snoc {α : Type} [Inhabited α] {l : List α} {q : α → Bool} {k : Nat} (hk : k < l.length) (h : ∀ x ∈ l.take k,q x = false) (h1 : q (ix l k) = false) : ∀ x ∈ l.take (k + 1),q x = false := by
 intro x hx
 rw [take_ix hk] at hx
 rcases List.mem_append.1 hx with hx | hx
 · exact h x hx
 · simp at hx; subst hx; exact h1
theorem Ct.kp {P : Program} {f : FuncId} {args : Array Value} {H : Heap} {u : Value} (h : Ct P f args H (fun v H' => v = u ∧ H' = H)) : Ct P f args H (fun v H' => v = u ∧ Kp H.size H H') := h.mono fun _ _ ⟨a,b⟩ => ⟨a,b ▸ Kp.refl _ _⟩
theorem idxFInt_ct {a0 : Value} {l : List Int} {fp : Nat} {cp : List Value} {D1 : List Dt} {L1 : List Res} (q : Int → Bool) (hE : Ent Tryz.prog fp) (hq : ∀ x,x ∈ l → Pd Tryz.prog fp (.int .i64 x :: cp).toArray [dl D1] L1 (q x)) : Tr Tryz.prog 168 #[a0,.func (.func fp) #[] cp.toArray] [dv (rL (rI .i64)) a0 l,dl D1] [it L1] (fun _ : Unit => .int .i64 (idxM l q)) (fun _ => []) (fun _ _ => [it L1]) := by
 refine jenter (args := [a0,.func (.func fp) #[] cp.toArray]) Tryz.func168 rfl rfl rfl fun w0 X => ?_
 refine jq (jr (ja Z (jn (jx (jq (jq (jr (jm Z (jdq d0 fun q1 w1 => js (jln U22 d0 Z) (jm Z ?_))))))))))
 refine jn (jx (jb ?_))
 refine jlp (fun (k : Nat) => ⟨k ≤ l.length ∧ (∀ x ∈ l.take k,q x = false),[dv (rL (rI .i64)) a0 l,dl D1],[it L1],[(0,a0),(1,.func (.func fp) #[] cp.toArray),(7,.int .i64 (↑(List.length l))),(8,.int .i64 (↑k))],l.length - k⟩) 0 ⟨by omega,by simp⟩ (dc d0 (dc d1 dn)) (kc k0 kn) ⟨Z,Z,Z,eqI (by omega),trivial⟩ ?_
 rintro k; dsimp only; rintro ⟨hk,hR⟩
 refine jq (jr (js (jlss Z Z) (jn (jx (jq ?_)))))
 refine jif Z (fun hc1 => ?_) (fun hc1 => ?_)
 refine jsk (jx (jq (jb (jq (jr (jm Z (ja Z (jn (jx (jq (jr ?_)))))))))))
 refine jm Z (jm Z (jm Z (js (jix U22 Z3 d0 Z Z Z (by omega)) (js (jlI (dix d0 k (by omega)) O3 Z) (jc hE Z Z (hq (ix l k) (ix_mem (by omega))) (dc d1 dn) (kc k0 kn) (fun _ => p0) (fun _ => p1) fun _ => jn (jx ?_))))))
 refine jif Z (fun hc2 => ?_) (fun hc2 => ?_)
 refine jq (jr (jm Z (ja Z (jn (jx (jrt (jbr (jtr (jtr (jbr (jtr ?_)))))))))))
 exact jr1 Z Z () (congrArg (Value.int .i64) (Eq.symm (idx_hit (by omega) hR hc2))) dn (fun _ _ => (kc k0 kn))
 refine jsk (jbn (jx (jr (js (jadd Z Z (by omega)) (jm Z (jn ?_))))))
 exact jag (k + 1) ⟨by omega,no_snoc (by omega) hR hc2⟩ (dc d0 (dc d1 dn)) (kc k0 kn) ⟨Z,Z,Z,eqI (by omega),trivial⟩
 refine jex (jtx (jtx (jbh (jx (jq (jr (ja Z (jn (jx (jrt ?_))))))))))
 exact jr1 Z Z () (congrArg (Value.int .i64) (Eq.symm (idx_none (by omega) hR))) dn (fun _ _ => (kc k0 kn))
theorem anyFInt_ct {a0 : Value} {l : List Int} {fp : Nat} {cp : List Value} {D1 : List Dt} {L1 : List Res} (q : Int → Bool) (hE : Ent Tryz.prog fp) (hq : ∀ x,x ∈ l → Pd Tryz.prog fp (.int .i64 x :: cp).toArray [dl D1] L1 (q x)) : Tr Tryz.prog 134 #[a0,.func (.func fp) #[] cp.toArray] [dv (rL (rI .i64)) a0 l,dl D1] [it L1] (fun _ : Unit => .bool (anyM l q)) (fun _ => []) (fun _ _ => [it L1]) := by
 refine jenter (args := [a0,.func (.func fp) #[] cp.toArray]) Tryz.func134 rfl rfl rfl fun w0 X => ?_
 refine jq (jr (ja Z (jn (jx (jq (jr (jm Z (jm Z (jdq d0 fun q1 w1 => jc E168 Z Z (idxFInt_ct q hE hq) (dc d0 (dc d1 dn)) (kc k0 kn) (fun _ => p0) (fun _ => p1) fun _ => js (jgeq Z Z) ?_)))))))))
 refine ja Z (jn (jx (jrt ?_)))
 exact jr1 Z Z () (congrArg Value.bool (Eq.symm ((idx_any l q).symm))) dn (fun _ _ => (kc k0 kn))
theorem idxFIn_ct {a0 : Value} {l : List D.In} {fp : Nat} {cp : List Value} {D1 : List Dt} {L1 : List Res} (q : D.In → Bool) (hE : Ent Tryz.prog fp) (hq : ∀ x,x ∈ l → ∀ c : Unit,Pd Tryz.prog fp (vIn x c :: cp).toArray [da rIn (vIn x c) x,dl D1] L1 (q x)) : Tr Tryz.prog 83 #[a0,.func (.func fp) #[] cp.toArray] [dv (rL rIn) a0 l,dl D1] [it L1] (fun _ : Unit => .int .i64 (idxM l q)) (fun _ => []) (fun _ _ => [it L1]) := by
 refine jenter (args := [a0,.func (.func fp) #[] cp.toArray]) Tryz.func83 rfl rfl rfl fun w0 X => ?_
 refine jq (jr (ja Z (jn (jx (jq (jq (jr (jm Z (jdq d0 fun q1 w1 => js (jln U60 d0 Z) (jm Z ?_))))))))))
 refine jn (jx (jb ?_))
 refine jlp (fun (k : Nat) => ⟨k ≤ l.length ∧ (∀ x ∈ l.take k,q x = false),[dv (rL rIn) a0 l,dl D1],[it L1],[(0,a0),(1,.func (.func fp) #[] cp.toArray),(7,.int .i64 (↑(List.length l))),(8,.int .i64 (↑k))],l.length - k⟩) 0 ⟨by omega,by simp⟩ (dc d0 (dc d1 dn)) (kc k0 kn) ⟨Z,Z,Z,eqI (by omega),trivial⟩ ?_
 rintro k; dsimp only; rintro ⟨hk,hR⟩
 refine jq (jr (js (jlss Z Z) (jn (jx (jq ?_)))))
 refine jif Z (fun hc1 => ?_) (fun hc1 => ?_)
 refine jsk (jx (jq (jb (jq (jr (jm Z (ja Z (jn (jx (jq (jr ?_)))))))))))
 refine jm Z (jm Z (jm Z (js (jix U60 Z64 d0 Z Z Z (by omega)) (jA sIn (jlA (dix d0 k (by omega)) A64 Z64 Z) fun _ => jc hE Z Z (hq (ix l k) (ix_mem (by omega)) ()) (dc d0 (dc d2 dn)) (kc k0 kn) (fun _ => p0) (fun _ => p1) fun _ => jn (jx ?_)))))
 refine jif Z (fun hc2 => ?_) (fun hc2 => ?_)
 refine jq (jr (jm Z (ja Z (jn (jx (jrt (jbr (jtr (jtr (jbr (jtr ?_)))))))))))
 exact jr1 Z Z () (congrArg (Value.int .i64) (Eq.symm (idx_hit (by omega) hR hc2))) dn (fun _ _ => (kc k0 kn))
 refine jsk (jbn (jx (jr (js (jadd Z Z (by omega)) (jm Z (jn ?_))))))
 exact jag (k + 1) ⟨by omega,no_snoc (by omega) hR hc2⟩ (dc d1 (dc d2 dn)) (kc k0 kn) ⟨Z,Z,Z,eqI (by omega),trivial⟩
 refine jex (jtx (jtx (jbh (jx (jq (jr (ja Z (jn (jx (jrt ?_))))))))))
 exact jr1 Z Z () (congrArg (Value.int .i64) (Eq.symm (idx_none (by omega) hR))) dn (fun _ _ => (kc k0 kn))
theorem anyFIn_ct {a0 : Value} {l : List D.In} {fp : Nat} {cp : List Value} {D1 : List Dt} {L1 : List Res} (q : D.In → Bool) (hE : Ent Tryz.prog fp) (hq : ∀ x,x ∈ l → ∀ c : Unit,Pd Tryz.prog fp (vIn x c :: cp).toArray [da rIn (vIn x c) x,dl D1] L1 (q x)) : Tr Tryz.prog 129 #[a0,.func (.func fp) #[] cp.toArray] [dv (rL rIn) a0 l,dl D1] [it L1] (fun _ : Unit => .bool (anyM l q)) (fun _ => []) (fun _ _ => [it L1]) := by
 refine jenter (args := [a0,.func (.func fp) #[] cp.toArray]) Tryz.func129 rfl rfl rfl fun w0 X => ?_
 refine jq (jr (ja Z (jn (jx (jq (jr (jm Z (jm Z (jdq d0 fun q1 w1 => jc E83 Z Z (idxFIn_ct q hE hq) (dc d0 (dc d1 dn)) (kc k0 kn) (fun _ => p0) (fun _ => p1) fun _ => js (jgeq Z Z) ?_)))))))))
 refine ja Z (jn (jx (jrt ?_)))
 exact jr1 Z Z () (congrArg Value.bool (Eq.symm ((idx_any l q).symm))) dn (fun _ _ => (kc k0 kn))
theorem idxFPhi_ct {a0 : Value} {l : List D.Phi} {fp : Nat} {cp : List Value} {D1 : List Dt} {L1 : List Res} (q : D.Phi → Bool) (hE : Ent Tryz.prog fp) (hq : ∀ x,x ∈ l → ∀ c : Value,Pd Tryz.prog fp (vPhi x c :: cp).toArray [da rPhi (vPhi x c) x,dl D1] L1 (q x)) : Tr Tryz.prog 166 #[a0,.func (.func fp) #[] cp.toArray] [dv (rL rPhi) a0 l,dl D1] [it L1] (fun _ : Unit => .int .i64 (idxM l q)) (fun _ => []) (fun _ _ => [it L1]) := by
 refine jenter (args := [a0,.func (.func fp) #[] cp.toArray]) Tryz.func166 rfl rfl rfl fun w0 X => ?_
 refine jq (jr (ja Z (jn (jx (jq (jq (jr (jm Z (jdq d0 fun q1 w1 => js (jln U32 d0 Z) (jm Z ?_))))))))))
 refine jn (jx (jb ?_))
 refine jlp (fun (k : Nat) => ⟨k ≤ l.length ∧ (∀ x ∈ l.take k,q x = false),[dv (rL rPhi) a0 l,dl D1],[it L1],[(0,a0),(1,.func (.func fp) #[] cp.toArray),(7,.int .i64 (↑(List.length l))),(8,.int .i64 (↑k))],l.length - k⟩) 0 ⟨by omega,by simp⟩ (dc d0 (dc d1 dn)) (kc k0 kn) ⟨Z,Z,Z,eqI (by omega),trivial⟩ ?_
 rintro k; dsimp only; rintro ⟨hk,hR⟩
 refine jq (jr (js (jlss Z Z) (jn (jx (jq ?_)))))
 refine jif Z (fun hc1 => ?_) (fun hc1 => ?_)
 refine jsk (jx (jq (jb (jq (jr (jm Z (ja Z (jn (jx (jq (jr ?_)))))))))))
 refine jm Z (jm Z (jm Z (js (jix U32 Z62 d0 Z Z Z (by omega)) (jA sPhi (jlA (dix d0 k (by omega)) A62 Z62 Z) fun c15 => jc hE Z Z (hq (ix l k) (ix_mem (by omega)) c15) (dc d0 (dc d2 dn)) (kc k0 kn) (fun _ => p0) (fun _ => p1) fun _ => jn (jx ?_)))))
 refine jif Z (fun hc2 => ?_) (fun hc2 => ?_)
 refine jq (jr (jm Z (ja Z (jn (jx (jrt (jbr (jtr (jtr (jbr (jtr ?_)))))))))))
 exact jr1 Z Z () (congrArg (Value.int .i64) (Eq.symm (idx_hit (by omega) hR hc2))) dn (fun _ _ => (kc k0 kn))
 refine jsk (jbn (jx (jr (js (jadd Z Z (by omega)) (jm Z (jn ?_))))))
 exact jag (k + 1) ⟨by omega,no_snoc (by omega) hR hc2⟩ (dc d1 (dc d2 dn)) (kc k0 kn) ⟨Z,Z,Z,eqI (by omega),trivial⟩
 refine jex (jtx (jtx (jbh (jx (jq (jr (ja Z (jn (jx (jrt ?_))))))))))
 exact jr1 Z Z () (congrArg (Value.int .i64) (Eq.symm (idx_none (by omega) hR))) dn (fun _ _ => (kc k0 kn))
theorem anyFPhi_ct {a0 : Value} {l : List D.Phi} {fp : Nat} {cp : List Value} {D1 : List Dt} {L1 : List Res} (q : D.Phi → Bool) (hE : Ent Tryz.prog fp) (hq : ∀ x,x ∈ l → ∀ c : Value,Pd Tryz.prog fp (vPhi x c :: cp).toArray [da rPhi (vPhi x c) x,dl D1] L1 (q x)) : Tr Tryz.prog 131 #[a0,.func (.func fp) #[] cp.toArray] [dv (rL rPhi) a0 l,dl D1] [it L1] (fun _ : Unit => .bool (anyM l q)) (fun _ => []) (fun _ _ => [it L1]) := by
 refine jenter (args := [a0,.func (.func fp) #[] cp.toArray]) Tryz.func131 rfl rfl rfl fun w0 X => ?_
 refine jq (jr (ja Z (jn (jx (jq (jr (jm Z (jm Z (jdq d0 fun q1 w1 => jc E166 Z Z (idxFPhi_ct q hE hq) (dc d0 (dc d1 dn)) (kc k0 kn) (fun _ => p0) (fun _ => p1) fun _ => js (jgeq Z Z) ?_)))))))))
 refine ja Z (jn (jx (jrt ?_)))
 exact jr1 Z Z () (congrArg Value.bool (Eq.symm ((idx_any l q).symm))) dn (fun _ _ => (kc k0 kn))
abbrev U188 := @Tryz.underlying188
abbrev U24 := @Tryz.underlying24
theorem A35 : ∃ d,Tryz.prog.underlying 35 = some d ∧ (match d with | .struct _ | .array _ _ => true | _ => false) = true := ⟨_,Tryz.underlying35,rfl⟩
theorem E128 : Ent Tryz.prog 128 := ⟨_,Tryz.func128,by kernel_rfl,by kernel_rfl⟩
theorem E133 : Ent Tryz.prog 133 := ⟨_,Tryz.func133,by kernel_rfl,by kernel_rfl⟩
theorem E134 : Ent Tryz.prog 134 := ⟨_,Tryz.func134,by kernel_rfl,by kernel_rfl⟩
theorem E135 : Ent Tryz.prog 135 := ⟨_,Tryz.func135,by kernel_rfl,by kernel_rfl⟩
theorem E165 : Ent Tryz.prog 165 := ⟨_,Tryz.func165,by kernel_rfl,by kernel_rfl⟩
theorem E167 : Ent Tryz.prog 167 := ⟨_,Tryz.func167,by kernel_rfl,by kernel_rfl⟩
theorem E177 : Ent Tryz.prog 177 := ⟨_,Tryz.func177,by kernel_rfl,by kernel_rfl⟩
theorem E178 : Ent Tryz.prog 178 := ⟨_,Tryz.func178,by kernel_rfl,by kernel_rfl⟩
theorem E181 : Ent Tryz.prog 181 := ⟨_,Tryz.func181,by kernel_rfl,by kernel_rfl⟩
theorem E29 : Ent Tryz.prog 29 := ⟨_,Tryz.func29,by kernel_rfl,by kernel_rfl⟩
theorem E30 : Ent Tryz.prog 30 := ⟨_,Tryz.func30,by kernel_rfl,by kernel_rfl⟩
theorem E44 : Ent Tryz.prog 44 := ⟨_,Tryz.func44,by kernel_rfl,by kernel_rfl⟩
theorem E45 : Ent Tryz.prog 45 := ⟨_,Tryz.func45,by kernel_rfl,by kernel_rfl⟩
theorem Z24 : Sz Tryz.prog 24 2 := by unfold Sz; kernel_rfl
theorem Z35 : Sz Tryz.prog 35 5 := by unfold Sz; kernel_rfl
theorem J24 : (Tryz.prog.info? 24).bind (·.zero) = some (.agg #[.int .i64 0,.int .i64 0]) := by kernel_rfl
def badR (r : Int) : Bool := decide (r < 0) || decide (8192 ≤ r)
theorem any_reg : ∀ l : List Int,(!anyM l badR) = regM l
 | [] => rfl
 | x :: l => by
   have ih := any_reg l
   unfold anyM at ih ⊢
   rw [List.any_cons,regM,Bool.not_or,ih]
   by_cases h : x < 0 ∨ 8192 ≤ x
   · rw [if_pos h]; have : badR x = true := by unfold badR; simp; exact h
     rw [this]; rfl
   · rw [if_neg h]; have : badR x = false := by unfold badR; simp; omega
     rw [this]; rfl
theorem u32_dec {n : Int} (h : IntKind.i32.wrap n = n) (m : Int) (hm : 0 < m ∧ m ≤ 1000) : decide (IntKind.u32.wrap n < m) = decide (0 ≤ n ∧ n ≤ m - 1) := by
 have h1 := i32_rng h
 rw [decide_eq_decide,IntKind.wrap_u32]; omega
def immM (i : D.Mach) : Bool :=
 if i.Op = 3 then fitsM i.Imm 16
 else if i.Op = 18 ∨ i.Op = 19 then fitsM i.Imm 8
 else if i.Op = 20 ∨ i.Op = 21 ∨ i.Op = 22 then decide (0 ≤ i.Imm ∧ i.Imm ≤ 31)
 else if i.Op = 24 ∨ i.Op = 26 then decide (0 ≤ i.Imm ∧ i.Imm ≤ 255)
 else true
def insE (i : D.Mach) : Int :=
 if i.Op < 1 ∨ 29 < i.Op ∨ i.Op = 2 ∨ (i.Op = 28 ∧ 4 < i.Args.length) then 30
 else if regM (makesM i) = false ∨ regM (takesM i) = false then 31
 else if i.Op = 29 ∧ i.D = i.E then 12
 else if immM i = false then 32
 else 0
def limLo (op : Int) : Int := if op = 1 then 1 else if op = 7 ∨ op = 8 then 0 else 2
def limHi (op : Int) : Int := if op = 1 then 1 else if op = 7 ∨ op = 8 then 0 else if op = 6 then 65 else 2
def toM (e : D.End) : Bool := decide (1 ≤ e.Op ∧ e.Op ≤ 8 ∧ limLo e.Op ≤ e.To.length ∧ e.To.length ≤ limHi e.Op)
def badB (n b : Int) : Bool := decide (b < 1) || decide (n ≤ b)
def endE (e : D.End) (n : Int) : Int := if toM e = false then 30 else if regM (nM9 e) = false then 31 else if anyM e.To (badB n) = true then 14 else 0
def phiE (p : D.Phi) (ahead : List D.Phi) : Int :=
 if regM [p.Dst] = false ∨ anyM p.In (fun x => !regM [x.Val]) = true then 31
 else if anyM ahead (fun x => decide (x.Dst = p.Dst)) = true then 12
 else 0
theorem ltab (op : Int) : ((.tuple #[(lkM [(1,.agg #[.int .i64 1,.int .i64 1]),(2,.agg #[.int .i64 2,.int .i64 2]),(3,.agg #[.int .i64 2,.int .i64 2]),(4,.agg #[.int .i64 2,.int .i64 2]),(5,.agg #[.int .i64 2,.int .i64 2]),(6,.agg #[.int .i64 2,.int .i64 65]),(7,.agg #[.int .i64 0,.int .i64 0]),(8,.agg #[.int .i64 0,.int .i64 0])] op).getD (.agg #[.int .i64 0,.int .i64 0]),.bool (lkM [(1,.agg #[.int .i64 1,.int .i64 1]),(2,.agg #[.int .i64 2,.int .i64 2]),(3,.agg #[.int .i64 2,.int .i64 2]),(4,.agg #[.int .i64 2,.int .i64 2]),(5,.agg #[.int .i64 2,.int .i64 2]),(6,.agg #[.int .i64 2,.int .i64 65]),(7,.agg #[.int .i64 0,.int .i64 0]),(8,.agg #[.int .i64 0,.int .i64 0])] op).isSome] : Value) = .tuple #[.agg #[.int .i64 (limLo op),.int .i64 (limHi op)],.bool true] ∧ 1 ≤ op ∧ op ≤ 8) ∨
   ((.tuple #[(lkM [(1,.agg #[.int .i64 1,.int .i64 1]),(2,.agg #[.int .i64 2,.int .i64 2]),(3,.agg #[.int .i64 2,.int .i64 2]),(4,.agg #[.int .i64 2,.int .i64 2]),(5,.agg #[.int .i64 2,.int .i64 2]),(6,.agg #[.int .i64 2,.int .i64 65]),(7,.agg #[.int .i64 0,.int .i64 0]),(8,.agg #[.int .i64 0,.int .i64 0])] op).getD (.agg #[.int .i64 0,.int .i64 0]),.bool (lkM [(1,.agg #[.int .i64 1,.int .i64 1]),(2,.agg #[.int .i64 2,.int .i64 2]),(3,.agg #[.int .i64 2,.int .i64 2]),(4,.agg #[.int .i64 2,.int .i64 2]),(5,.agg #[.int .i64 2,.int .i64 2]),(6,.agg #[.int .i64 2,.int .i64 65]),(7,.agg #[.int .i64 0,.int .i64 0]),(8,.agg #[.int .i64 0,.int .i64 0])] op).isSome] : Value) = .tuple #[.agg #[.int .i64 0,.int .i64 0],.bool false] ∧ ¬ (1 ≤ op ∧ op ≤ 8)) := by
 by_cases ho : 1 ≤ op ∧ op ≤ 8
 · refine .inl ⟨?_,ho⟩
   have hc : op = 1 ∨ op = 2 ∨ op = 3 ∨ op = 4 ∨ op = 5 ∨ op = 6 ∨ op = 7 ∨ op = 8 := by omega
   rcases hc with rfl | rfl | rfl | rfl | rfl | rfl | rfl | rfl <;> rfl
 · refine .inr ⟨?_,ho⟩
   have h1 : ∀ k : Int,1 ≤ k → k ≤ 8 → (k == op) = false := fun k h2 h3 => by rw [beq_eq_false_iff_ne]; omega
   simp [lkM,List.find?,h1]
theorem pRegs1_ct (r : Int) : Tv Tryz.prog 165 #[.int .i64 r] [] [] (.bool (badR r)) := by
 refine jenter (args := [.int .i64 r]) Tryz.func165 rfl rfl rfl fun w0 X => ?_
 refine jq (jr (ja Z (jn (jx (jq (jr (jm Z (js (jlss Z Z) (jm Z (jg Z Z (.f _) (fun hg => jmv Z) (jg Z Z (.f _) (fun hg => jgeq (evg Z hg) Z) ?_)))))))))))
 refine js (jor Z Z) (ja Z (jn (jx (jrt ?_))))
 exact jrB Z Z (by rfl)
theorem pRegs_ct {a0 : Value} {l : List Int} : Tv Tryz.prog 128 #[a0] [dv (rL (rI .i64)) a0 l] [] (.bool (regM l)) := by
 refine jenter (args := [a0]) Tryz.func128 rfl rfl rfl fun w0 X => ?_
 refine jq (jr (ja Z (jn (jx (jq (jr (jm Z (jdq d0 fun q1 w1 => jcp E134 Z Z (anyFInt_ct badR E165 (fun x _ => Tr.it (pRegs1_ct x) i0)) (dc d0 (dc (db dn) dn)) kn p0 (js (jnot Z) (ja Z ?_))))))))))
 refine jn (jx (jrt ?_))
 exact jrB Z Z ((any_reg l).symm)
theorem pImm_ct {a0 : Value} {i : D.Mach} : Tv Tryz.prog 133 #[vMach i a0] [da rMach (vMach i a0) i] [] (.bool (immM i)) := by
 refine jenter (args := [vMach i a0]) Tryz.func133 rfl rfl rfl fun w0 X => ?_
 refine cwr (rMach.W_Imm d0) fun wim => jq (jr (jbox Z Z fun g1 => ja Z (jn (jx (jq (jq (jr (js (jf F69_0 Z) (js (jl k0 O3 Z Z) ?_)))))))))
 refine jn (jx (jb (jq (jr (js (jeql Z Z) (ja Z (jn (jx ?_))))))))
 refine jif Z (fun hc1 => ?_) (fun hc1 => ?_)
 refine jq (jr (js (jf F69_6 Z) (js (jl k0 O21 Z Z) (jwr (rMach.W_Imm d0) fun w1 => jcv E167 Z Z (wFits_ct i.Imm 16 w1) dn kn (ja Z (jn (jx (jrt (jbr (jtr ?_))))))))))
 exact jrB Z Z (by (unfold immM; (repeat rw [if_neg (by omega)]) <;> (try rw [if_pos (by omega)]) <;> first | rfl | exact (u32_dec wim 32 (by decide)).symm | exact (u32_dec wim 256 (by decide)).symm | (simp [*]; done) | (simp; done) | (rw [Bool.decide_and]; done)))
 refine jq (jq (jr (js (jeql Z Z) (ja Z (jn (jx ?_))))))
 refine jif Z (fun hc2 => ?_) (fun hc2 => ?_)
 refine jsk (jx ?_)
 refine jif Z (fun hc3 => ?_) (fun hc3 => ?_)
 refine jq (jr (js (jf F69_6 Z) (js (jl k0 O21 Z Z) (jwr (rMach.W_Imm d0) fun w2 => jcv E167 Z Z (wFits_ct i.Imm 8 w2) dn kn (ja Z (jn (jx (jrt (jbr (jtr ?_))))))))))
 exact jrB Z Z (by (unfold immM; (repeat rw [if_neg (by omega)]) <;> (try rw [if_pos (by omega)]) <;> first | rfl | exact (u32_dec wim 32 (by decide)).symm | exact (u32_dec wim 256 (by decide)).symm | (simp [*]; done) | (simp; done) | (rw [Bool.decide_and]; done)))
 exact absurd hc3 (by simp [hc1,hc2])
 refine jr (js (jeql Z Z) (ja Z (jn (jx ?_))))
 refine jif Z (fun hc4 => ?_) (fun hc4 => ?_)
 refine jq (jr (js (jf F69_6 Z) (js (jl k0 O21 Z Z) (jwr (rMach.W_Imm d0) fun w3 => jcv E167 Z Z (wFits_ct i.Imm 8 w3) dn kn (ja Z (jn (jx (jrt (jbr (jtr ?_))))))))))
 exact jrB Z Z (by (unfold immM; (repeat rw [if_neg (by omega)]) <;> (try rw [if_pos (by omega)]) <;> first | rfl | exact (u32_dec wim 32 (by decide)).symm | exact (u32_dec wim 256 (by decide)).symm | (simp [*]; done) | (simp; done) | (rw [Bool.decide_and]; done)))
 refine jq (jq (jr (js (jeql Z Z) (ja Z (jn (jx ?_))))))
 refine jif Z (fun hc5 => ?_) (fun hc5 => ?_)
 refine jsk (jx ?_)
 refine jif Z (fun hc6 => ?_) (fun hc6 => ?_)
 refine jq (jr (js (jf F69_6 Z) (js (jl k0 O21 Z Z) (js (jco U21 U148 Z Z) (js (jlss Z Z) (ja Z (jn (jx (jrt (jbr (jtr ?_)))))))))))
 exact jrB Z Z (by (unfold immM; (repeat rw [if_neg (by omega)]) <;> (try rw [if_pos (by omega)]) <;> first | rfl | exact (u32_dec wim 32 (by decide)).symm | exact (u32_dec wim 256 (by decide)).symm | (simp [*]; done) | (simp; done) | (rw [Bool.decide_and]; done)))
 exact absurd hc6 (by simp [hc1,hc2,hc4,hc5])
 refine jq (jr (js (jeql Z Z) (ja Z (jn (jx ?_)))))
 refine jif Z (fun hc7 => ?_) (fun hc7 => ?_)
 refine jsk (jx ?_)
 refine jif Z (fun hc8 => ?_) (fun hc8 => ?_)
 refine jq (jr (js (jf F69_6 Z) (js (jl k0 O21 Z Z) (js (jco U21 U148 Z Z) (js (jlss Z Z) (ja Z (jn (jx (jrt (jbr (jtr ?_)))))))))))
 exact jrB Z Z (by (unfold immM; (repeat rw [if_neg (by omega)]) <;> (try rw [if_pos (by omega)]) <;> first | rfl | exact (u32_dec wim 32 (by decide)).symm | exact (u32_dec wim 256 (by decide)).symm | (simp [*]; done) | (simp; done) | (rw [Bool.decide_and]; done)))
 exact absurd hc8 (by simp [hc1,hc2,hc4,hc5,hc7])
 refine jr (js (jeql Z Z) (ja Z (jn (jx ?_))))
 refine jif Z (fun hc9 => ?_) (fun hc9 => ?_)
 refine jq (jr (js (jf F69_6 Z) (js (jl k0 O21 Z Z) (js (jco U21 U148 Z Z) (js (jlss Z Z) (ja Z (jn (jx (jrt (jbr (jtr ?_)))))))))))
 exact jrB Z Z (by (unfold immM; (repeat rw [if_neg (by omega)]) <;> (try rw [if_pos (by omega)]) <;> first | rfl | exact (u32_dec wim 32 (by decide)).symm | exact (u32_dec wim 256 (by decide)).symm | (simp [*]; done) | (simp; done) | (rw [Bool.decide_and]; done)))
 refine jq (jq (jr (js (jeql Z Z) (ja Z (jn (jx ?_))))))
 refine jif Z (fun hc10 => ?_) (fun hc10 => ?_)
 refine jsk (jx ?_)
 refine jif Z (fun hc11 => ?_) (fun hc11 => ?_)
 refine jq (jr (js (jf F69_6 Z) (js (jl k0 O21 Z Z) (js (jco U21 U148 Z Z) (js (jlss Z Z) (ja Z (jn (jx (jrt (jbr (jtr ?_)))))))))))
 exact jrB Z Z (by (unfold immM; (repeat rw [if_neg (by omega)]) <;> (try rw [if_pos (by omega)]) <;> first | rfl | exact (u32_dec wim 32 (by decide)).symm | exact (u32_dec wim 256 (by decide)).symm | (simp [*]; done) | (simp; done) | (rw [Bool.decide_and]; done)))
 exact absurd hc11 (by simp [hc1,hc2,hc4,hc5,hc7,hc9,hc10])
 refine jr (js (jeql Z Z) (ja Z (jn (jx ?_))))
 refine jif Z (fun hc12 => ?_) (fun hc12 => ?_)
 refine jq (jr (js (jf F69_6 Z) (js (jl k0 O21 Z Z) (js (jco U21 U148 Z Z) (js (jlss Z Z) (ja Z (jn (jx (jrt (jbr (jtr ?_)))))))))))
 exact jrB Z Z (by (unfold immM; (repeat rw [if_neg (by omega)]) <;> (try rw [if_pos (by omega)]) <;> first | rfl | exact (u32_dec wim 32 (by decide)).symm | exact (u32_dec wim 256 (by decide)).symm | (simp [*]; done) | (simp; done) | (rw [Bool.decide_and]; done)))
 refine jsk (jbn (jx (jq (jr (ja Z (jn (jx (jrt ?_))))))))
 exact jrB Z Z (by (unfold immM; (repeat rw [if_neg (by omega)]) <;> (try rw [if_pos (by omega)]) <;> first | rfl | exact (u32_dec wim 32 (by decide)).symm | exact (u32_dec wim 256 (by decide)).symm | (simp [*]; done) | (simp; done) | (rw [Bool.decide_and]; done)))
theorem rImm_ct {a0 : Value} {i : D.Mach} : Tv Tryz.prog 178 #[vMach i a0] [da rMach (vMach i a0) i] [] (.bool (immM i)) := by
 refine jenter (args := [vMach i a0]) Tryz.func178 rfl rfl rfl fun w0 X => ?_
 refine cwr (rMach.W_Imm d0) fun wim => jq (jr (jbox Z Z fun g1 => ja Z (jn (jx (jq (jq (jr (js (jf F69_0 Z) (js (jl k0 O3 Z Z) ?_)))))))))
 refine jn (jx (jb (jq (jr (js (jeql Z Z) (ja Z (jn (jx ?_))))))))
 refine jif Z (fun hc1 => ?_) (fun hc1 => ?_)
 refine jq (jr (js (jf F69_6 Z) (js (jl k0 O21 Z Z) (jwr (rMach.W_Imm d0) fun w1 => jcv E181 Z Z (rFits_ct i.Imm 16 w1) dn kn (ja Z (jn (jx (jrt (jbr (jtr ?_))))))))))
 exact jrB Z Z (by (unfold immM; (repeat rw [if_neg (by omega)]) <;> (try rw [if_pos (by omega)]) <;> first | rfl | exact (u32_dec wim 32 (by decide)).symm | exact (u32_dec wim 256 (by decide)).symm | (simp [*]; done) | (simp; done) | (rw [Bool.decide_and]; done)))
 refine jq (jq (jr (js (jeql Z Z) (ja Z (jn (jx ?_))))))
 refine jif Z (fun hc2 => ?_) (fun hc2 => ?_)
 refine jsk (jx ?_)
 refine jif Z (fun hc3 => ?_) (fun hc3 => ?_)
 refine jq (jr (js (jf F69_6 Z) (js (jl k0 O21 Z Z) (jwr (rMach.W_Imm d0) fun w2 => jcv E181 Z Z (rFits_ct i.Imm 8 w2) dn kn (ja Z (jn (jx (jrt (jbr (jtr ?_))))))))))
 exact jrB Z Z (by (unfold immM; (repeat rw [if_neg (by omega)]) <;> (try rw [if_pos (by omega)]) <;> first | rfl | exact (u32_dec wim 32 (by decide)).symm | exact (u32_dec wim 256 (by decide)).symm | (simp [*]; done) | (simp; done) | (rw [Bool.decide_and]; done)))
 exact absurd hc3 (by simp [hc1,hc2])
 refine jr (js (jeql Z Z) (ja Z (jn (jx ?_))))
 refine jif Z (fun hc4 => ?_) (fun hc4 => ?_)
 refine jq (jr (js (jf F69_6 Z) (js (jl k0 O21 Z Z) (jwr (rMach.W_Imm d0) fun w3 => jcv E181 Z Z (rFits_ct i.Imm 8 w3) dn kn (ja Z (jn (jx (jrt (jbr (jtr ?_))))))))))
 exact jrB Z Z (by (unfold immM; (repeat rw [if_neg (by omega)]) <;> (try rw [if_pos (by omega)]) <;> first | rfl | exact (u32_dec wim 32 (by decide)).symm | exact (u32_dec wim 256 (by decide)).symm | (simp [*]; done) | (simp; done) | (rw [Bool.decide_and]; done)))
 refine jq (jq (jr (js (jeql Z Z) (ja Z (jn (jx ?_))))))
 refine jif Z (fun hc5 => ?_) (fun hc5 => ?_)
 refine jsk (jx ?_)
 refine jif Z (fun hc6 => ?_) (fun hc6 => ?_)
 refine jq (jr (js (jf F69_6 Z) (js (jl k0 O21 Z Z) (js (jgeq Z Z) (jm Z (jg Z Z (.t _) (fun hg => jf F69_6 Z) (jg Z Z (.t _) (fun hg => jl k0 O21 (evg Z hg) Z) (jg Z Z (.t _) (fun hg => jleq (evg Z hg) Z) (js (jand Z Z) (ja Z (jn ?_)))))))))))
 refine jx (jrt (jbr (jtr ?_)))
 exact jrB Z Z (by (unfold immM; (repeat rw [if_neg (by omega)]) <;> (try rw [if_pos (by omega)]) <;> first | rfl | exact (u32_dec wim 32 (by decide)).symm | exact (u32_dec wim 256 (by decide)).symm | (simp [*]; done) | (simp; done) | (rw [Bool.decide_and]; done)))
 exact absurd hc6 (by simp [hc1,hc2,hc4,hc5])
 refine jq (jr (js (jeql Z Z) (ja Z (jn (jx ?_)))))
 refine jif Z (fun hc7 => ?_) (fun hc7 => ?_)
 refine jsk (jx ?_)
 refine jif Z (fun hc8 => ?_) (fun hc8 => ?_)
 refine jq (jr (js (jf F69_6 Z) (js (jl k0 O21 Z Z) (js (jgeq Z Z) (jm Z (jg Z Z (.t _) (fun hg => jf F69_6 Z) (jg Z Z (.t _) (fun hg => jl k0 O21 (evg Z hg) Z) (jg Z Z (.t _) (fun hg => jleq (evg Z hg) Z) (js (jand Z Z) (ja Z (jn ?_)))))))))))
 refine jx (jrt (jbr (jtr ?_)))
 exact jrB Z Z (by (unfold immM; (repeat rw [if_neg (by omega)]) <;> (try rw [if_pos (by omega)]) <;> first | rfl | exact (u32_dec wim 32 (by decide)).symm | exact (u32_dec wim 256 (by decide)).symm | (simp [*]; done) | (simp; done) | (rw [Bool.decide_and]; done)))
 exact absurd hc8 (by simp [hc1,hc2,hc4,hc5,hc7])
 refine jr (js (jeql Z Z) (ja Z (jn (jx ?_))))
 refine jif Z (fun hc9 => ?_) (fun hc9 => ?_)
 refine jq (jr (js (jf F69_6 Z) (js (jl k0 O21 Z Z) (js (jgeq Z Z) (jm Z (jg Z Z (.t _) (fun hg => jf F69_6 Z) (jg Z Z (.t _) (fun hg => jl k0 O21 (evg Z hg) Z) (jg Z Z (.t _) (fun hg => jleq (evg Z hg) Z) (js (jand Z Z) (ja Z (jn ?_)))))))))))
 refine jx (jrt (jbr (jtr ?_)))
 exact jrB Z Z (by (unfold immM; (repeat rw [if_neg (by omega)]) <;> (try rw [if_pos (by omega)]) <;> first | rfl | exact (u32_dec wim 32 (by decide)).symm | exact (u32_dec wim 256 (by decide)).symm | (simp [*]; done) | (simp; done) | (rw [Bool.decide_and]; done)))
 refine jq (jq (jr (js (jeql Z Z) (ja Z (jn (jx ?_))))))
 refine jif Z (fun hc10 => ?_) (fun hc10 => ?_)
 refine jsk (jx ?_)
 refine jif Z (fun hc11 => ?_) (fun hc11 => ?_)
 refine jq (jr (js (jf F69_6 Z) (js (jl k0 O21 Z Z) (js (jgeq Z Z) (jm Z (jg Z Z (.t _) (fun hg => jf F69_6 Z) (jg Z Z (.t _) (fun hg => jl k0 O21 (evg Z hg) Z) (jg Z Z (.t _) (fun hg => jleq (evg Z hg) Z) (js (jand Z Z) (ja Z (jn ?_)))))))))))
 refine jx (jrt (jbr (jtr ?_)))
 exact jrB Z Z (by (unfold immM; (repeat rw [if_neg (by omega)]) <;> (try rw [if_pos (by omega)]) <;> first | rfl | exact (u32_dec wim 32 (by decide)).symm | exact (u32_dec wim 256 (by decide)).symm | (simp [*]; done) | (simp; done) | (rw [Bool.decide_and]; done)))
 exact absurd hc11 (by simp [hc1,hc2,hc4,hc5,hc7,hc9,hc10])
 refine jr (js (jeql Z Z) (ja Z (jn (jx ?_))))
 refine jif Z (fun hc12 => ?_) (fun hc12 => ?_)
 refine jq (jr (js (jf F69_6 Z) (js (jl k0 O21 Z Z) (js (jgeq Z Z) (jm Z (jg Z Z (.t _) (fun hg => jf F69_6 Z) (jg Z Z (.t _) (fun hg => jl k0 O21 (evg Z hg) Z) (jg Z Z (.t _) (fun hg => jleq (evg Z hg) Z) (js (jand Z Z) (ja Z (jn ?_)))))))))))
 refine jx (jrt (jbr (jtr ?_)))
 exact jrB Z Z (by (unfold immM; (repeat rw [if_neg (by omega)]) <;> (try rw [if_pos (by omega)]) <;> first | rfl | exact (u32_dec wim 32 (by decide)).symm | exact (u32_dec wim 256 (by decide)).symm | (simp [*]; done) | (simp; done) | (rw [Bool.decide_and]; done)))
 refine jsk (jbn (jx (jq (jr (ja Z (jn (jx (jrt ?_))))))))
 exact jrB Z Z (by (unfold immM; (repeat rw [if_neg (by omega)]) <;> (try rw [if_pos (by omega)]) <;> first | rfl | exact (u32_dec wim 32 (by decide)).symm | exact (u32_dec wim 256 (by decide)).symm | (simp [*]; done) | (simp; done) | (rw [Bool.decide_and]; done)))
theorem pIns_ct {a0 : Value} {i : D.Mach} : Tv Tryz.prog 91 #[vMach i a0] [da rMach (vMach i a0) i] [] (.int .i64 (insE i)) := by
 refine jenter (args := [vMach i a0]) Tryz.func91 rfl rfl rfl fun w0 X => ?_
 refine jq (jr (jbox Z Z fun g1 => ja Z (jn (jx (jq (jb (jq (jr (js (jf F69_0 Z) (js (jl k0 O3 Z Z) ?_))))))))))
 refine js (jlss Z Z) (jm Z (jg Z Z (.f _) (fun hg => jf F69_0 Z) (jg Z Z (.f _) (fun hg => jl k0 O3 (evg Z hg) Z) (jg Z Z (.f _) (fun hg => jgtr (evg Z hg) Z) (js (jor Z Z) (jm Z (jg Z Z (.f _) (fun hg => jf F69_0 Z) (jg Z Z (.f _) (fun hg => jl k0 O3 (evg Z hg) Z) (jg Z Z (.f _) (fun hg => jeql (evg Z hg) Z) (js (jor Z Z) (jm Z ?_)))))))))))
 refine jg Z Z (.f _) (fun hg => jf F69_0 Z) (jg Z Z (.f _) (fun hg => jl k0 O3 (evg Z hg) Z) (jg Z Z (.f _) (fun hg => jeql (evg Z hg) Z) (jg Z Z (.f _) (fun hg => jmv (evg Z hg)) (jg Z Z (.gt _ _) (fun hg => jf F69_7 Z) (jg Z Z (.gt _ _) (fun hg => jl k0 O22 (evg Z hg) Z) (jdq (rMach.c_Args d0) fun q1 w1 => jg Z Z (.gt _ _) (fun hg => jln U22 (rMach.c_Args d0) (evg Z hg)) (jg Z Z (.gt _ _) (fun hg => jgtr (evg Z hg) Z) (jg Z Z (.f _) (fun hg => jand2 hg Z Z) (js (jor Z Z) (ja Z ?_))))))))))
 refine jn (jx ?_)
 refine jif Z (fun hc1 => ?_) (fun hc1 => ?_)
 refine jq (jr (ja Z (jn (jx (jrt (jbr (jtr ?_)))))))
 exact jrI Z Z (by first | (unfold insE; rw [if_pos (by omega)]; done) | (unfold insE; rw [if_neg (by omega)]; simp [*]; done) | (unfold insE; rw [if_neg (by omega)]; simp [*]; omega))
 refine jq (jr (js (jla k0 A69 Z69 Z Z Z) (jcd E31 Z Z pMakes_ct (dc d0 dn) kn fun v30 q2 w2 => jcv E128 Z Z pRegs_ct (dc d0 dn) kn (js (jnot Z) (jm Z (jg Z Z (.f _) (fun hg => jla k0 A69 Z69 Z Z Z) (jgcd Z Z (.f _) E30 Z (fun hg => evl1 (evg Z hg)) (fun hg => pTakes_ct) (fun hg => (dc d1 dn)) fun v35 => jgc Z Z (.f _) E128 Z (fun hg => evl1 (evg Z hg)) (fun hg => pRegs_ct) (fun hg => (dc (d0.on hg) dn)) kn p0 (jg Z Z (.f _) (fun hg => jnot (evg Z hg)) (js (jor Z Z) ?_)))))))))
 refine ja Z (jn (jx ?_))
 refine jif Z (fun hc2 => ?_) (fun hc2 => ?_)
 refine jq (jr (ja Z (jn (jx (jrt (jbr (jtr ?_)))))))
 exact jrI Z Z (by first | (unfold insE; rw [if_pos (by omega)]; done) | (unfold insE; rw [if_neg (by omega)]; simp [*]; done) | (unfold insE; rw [if_neg (by omega)]; simp [*]; omega))
 refine jq (jr (js (jf F69_0 Z) (js (jl k0 O3 Z Z) (js (jeql Z Z) (jm Z (jg Z Z (.t _) (fun hg => jf F69_1 Z) (jg Z Z (.t _) (fun hg => jl k0 O3 (evg Z hg) Z) (jg Z Z (.t _) (fun hg => jf F69_2 Z) (jg Z Z (.t _) (fun hg => jl k0 O3 (evg Z hg) Z) (jg Z Z (.t _) (fun hg => jeql (evg Z hg) (evg Z hg)) (js (jand Z Z) ?_)))))))))))
 refine ja Z (jn (jx ?_))
 refine jif Z (fun hc3 => ?_) (fun hc3 => ?_)
 refine jq (jr (ja Z (jn (jx (jrt (jbr (jtr ?_)))))))
 exact jrI Z Z (by first | (unfold insE; rw [if_pos (by omega)]; done) | (unfold insE; rw [if_neg (by omega)]; simp [*]; done) | (unfold insE; rw [if_neg (by omega)]; simp [*]; omega))
 refine jq (jr (js (jla k0 A69 Z69 Z Z Z) (jcv E133 Z Z pImm_ct (dc d2 dn) kn (js (jnot Z) (ja Z (jn (jx ?_)))))))
 refine jif Z (fun hc4 => ?_) (fun hc4 => ?_)
 refine jq (jr (ja Z (jn (jx (jrt (jbr (jtr ?_)))))))
 exact jrI Z Z (by first | (unfold insE; rw [if_pos (by omega)]; done) | (unfold insE; rw [if_neg (by omega)]; simp [*]; done) | (unfold insE; rw [if_neg (by omega)]; simp [*]; omega))
 refine jsk (jbn (jx (jq (jr (ja Z (jn (jx (jrt ?_))))))))
 exact jrI Z Z (by first | (unfold insE; rw [if_pos (by omega)]; done) | (unfold insE; rw [if_neg (by omega)]; simp [*]; done) | (unfold insE; rw [if_neg (by omega)]; simp [*]; omega))
theorem rIns_ct {a0 : Value} {i : D.Mach} : Tv Tryz.prog 163 #[vMach i a0] [da rMach (vMach i a0) i] [] (.int .i64 (insE i)) := by
 refine jenter (args := [vMach i a0]) Tryz.func163 rfl rfl rfl fun w0 X => ?_
 refine jq (jr (jbox Z Z fun g1 => ja Z (jn (jx (jq (jq (jr (js (jf F69_0 Z) (js (jl k0 O3 Z Z) (js (jlss Z Z) ?_))))))))))
 refine jm Z (jg Z Z (.f _) (fun hg => jf F69_0 Z) (jg Z Z (.f _) (fun hg => jl k0 O3 (evg Z hg) Z) (jg Z Z (.f _) (fun hg => jgtr (evg Z hg) Z) (js (jor Z Z) (jm Z (jg Z Z (.f _) (fun hg => jf F69_0 Z) (jg Z Z (.f _) (fun hg => jl k0 O3 (evg Z hg) Z) (jg Z Z (.f _) (fun hg => jeql (evg Z hg) Z) (js (jor Z Z) (jm Z (jg Z Z (.f _) (fun hg => jf F69_0 Z) ?_)))))))))))
 refine jg Z Z (.f _) (fun hg => jl k0 O3 (evg Z hg) Z) (jg Z Z (.f _) (fun hg => jeql (evg Z hg) Z) (jg Z Z (.f _) (fun hg => jmv (evg Z hg)) (jg Z Z (.gt _ _) (fun hg => jf F69_7 Z) (jg Z Z (.gt _ _) (fun hg => jl k0 O22 (evg Z hg) Z) (jdq (rMach.c_Args d0) fun q1 w1 => jg Z Z (.gt _ _) (fun hg => jln U22 (rMach.c_Args d0) (evg Z hg)) (jg Z Z (.gt _ _) (fun hg => jgtr (evg Z hg) Z) (jg Z Z (.f _) (fun hg => jand2 hg Z Z) (js (jor Z Z) (jn (jx ?_))))))))))
 refine jif Z (fun hc1 => ?_) (fun hc1 => ?_)
 refine jq (jr (ja Z (jn (jx (jrt (jtr ?_))))))
 exact jrI Z Z (by first | (unfold insE; rw [if_pos (by omega)]; done) | (unfold insE; rw [if_neg (by omega)]; simp [*]; done) | (unfold insE; rw [if_neg (by omega)]; simp [*]; omega))
 refine jsk (jx (jq (jq (jr (js (jla k0 A69 Z69 Z Z Z) (jcd E45 Z Z rMakes_ct (dc d0 dn) kn fun v28 q2 w2 => jcv E177 Z Z rReg_ct (dc d0 dn) kn (js (jnot Z) (jm Z (jg Z Z (.f _) (fun hg => jla k0 A69 Z69 Z Z Z) (jgcd Z Z (.f _) E44 Z (fun hg => evl1 (evg Z hg)) (fun hg => rTakes_ct) (fun hg => (dc d1 dn)) fun v33 => ?_))))))))))
 refine jgc Z Z (.f _) E177 Z (fun hg => evl1 (evg Z hg)) (fun hg => rReg_ct) (fun hg => (dc (d0.on hg) dn)) kn p0 (jg Z Z (.f _) (fun hg => jnot (evg Z hg)) (js (jor Z Z) (jn (jx ?_))))
 refine jif Z (fun hc2 => ?_) (fun hc2 => ?_)
 refine jq (jr (ja Z (jn (jx (jrt (jtr ?_))))))
 exact jrI Z Z (by first | (unfold insE; rw [if_pos (by omega)]; done) | (unfold insE; rw [if_neg (by omega)]; simp [*]; done) | (unfold insE; rw [if_neg (by omega)]; simp [*]; omega))
 refine jsk (jx (jq (jq (jr (js (jf F69_0 Z) (js (jl k0 O3 Z Z) (js (jeql Z Z) (jm Z (jg Z Z (.t _) (fun hg => jf F69_1 Z) (jg Z Z (.t _) (fun hg => jl k0 O3 (evg Z hg) Z) (jg Z Z (.t _) (fun hg => jf F69_2 Z) ?_)))))))))))
 refine jg Z Z (.t _) (fun hg => jl k0 O3 (evg Z hg) Z) (jg Z Z (.t _) (fun hg => jeql (evg Z hg) (evg Z hg)) (js (jand Z Z) (jn (jx ?_))))
 refine jif Z (fun hc3 => ?_) (fun hc3 => ?_)
 refine jq (jr (ja Z (jn (jx (jrt (jtr ?_))))))
 exact jrI Z Z (by first | (unfold insE; rw [if_pos (by omega)]; done) | (unfold insE; rw [if_neg (by omega)]; simp [*]; done) | (unfold insE; rw [if_neg (by omega)]; simp [*]; omega))
 refine jsk (jx (jq (jq (jr (js (jla k0 A69 Z69 Z Z Z) (jcv E178 Z Z rImm_ct (dc d2 dn) kn (js (jnot Z) (jn (jx ?_)))))))))
 refine jif Z (fun hc4 => ?_) (fun hc4 => ?_)
 refine jq (jr (ja Z (jn (jx (jrt (jtr ?_))))))
 exact jrI Z Z (by first | (unfold insE; rw [if_pos (by omega)]; done) | (unfold insE; rw [if_neg (by omega)]; simp [*]; done) | (unfold insE; rw [if_neg (by omega)]; simp [*]; omega))
 refine jsk (jx (jq (jr (ja Z (jn (jx (jrt ?_)))))))
 exact jrI Z Z (by first | (unfold insE; rw [if_pos (by omega)]; done) | (unfold insE; rw [if_neg (by omega)]; simp [*]; done) | (unfold insE; rw [if_neg (by omega)]; simp [*]; omega))
theorem pEnd1_ct (b : Int) (n : Int) {g1 : Nat} : Tr Tryz.prog 135 #[.int .i64 b,.pointer (some ⟨g1,0,none⟩)] [] [bx g1 3 [.int .i64 n]] (fun _ : Unit => .bool ((badB n) b)) (fun _ => []) (fun _ _ => [bx g1 3 [.int .i64 n]]) := by
 refine jenter (args := [.int .i64 b,.pointer (some ⟨g1,0,none⟩)]) Tryz.func135 rfl rfl rfl fun w0 X => ?_
 refine jq (jr (ja Z (jn (jx (jq (jr (jm Z (js (jlss Z Z) (jm Z (jg Z Z (.f _) (fun hg => jmv Z) (jg Z Z (.f _) (fun hg => jl k0 O3 Z Z) ?_)))))))))))
 refine jg Z Z (.f _) (fun hg => jgeq (evg Z hg) (evg Z hg)) (js (jor Z Z) (ja Z (jn (jx (jrt ?_)))))
 exact jr1 Z Z () (congrArg Value.bool (Eq.symm (by rfl))) dn (fun _ _ => (kc k0 kn))
theorem pEnd_ct {a0 : Value} {e : D.End} (n : Int) : Tv Tryz.prog 92 #[vEnd e a0,.int .i64 n] [da rEnd (vEnd e a0) e] [] (.int .i64 (endE e n)) := by
 refine jenter (args := [vEnd e a0,.int .i64 n]) Tryz.func92 rfl rfl rfl fun w0 X => ?_
 refine jq (jr (jbox Z Z fun g2 => jbox Z Z fun g3 => ja Z (jn (jx (jq (jr (jmm fun g8 => js (jbu (v := .agg #[.int .i64 1,.int .i64 1]) Z (fun _ => by kernel_rfl)) (jin U188 U3 k0 Z Z Z Z ?_))))))))
 refine js (jbu (v := .agg #[.int .i64 2,.int .i64 2]) Z (fun _ => by kernel_rfl)) (jin U188 U3 k0 Z Z Z Z (js (jbu (v := .agg #[.int .i64 2,.int .i64 2]) Z (fun _ => by kernel_rfl)) (jin U188 U3 k0 Z Z Z Z (js (jbu (v := .agg #[.int .i64 2,.int .i64 2]) Z (fun _ => by kernel_rfl)) (jin U188 U3 k0 Z Z Z Z (js (jbu (v := .agg #[.int .i64 2,.int .i64 2]) Z (fun _ => by kernel_rfl)) (jin U188 U3 k0 Z Z Z Z (js (jbu (v := .agg #[.int .i64 2,.int .i64 65]) Z (fun _ => by kernel_rfl)) (jin U188 U3 k0 Z Z Z Z (js (jbu (v := .agg #[.int .i64 0,.int .i64 0]) Z (fun _ => by kernel_rfl)) (jin U188 U3 k0 Z Z Z Z ?_)))))))))))
 refine js (jbu (v := .agg #[.int .i64 0,.int .i64 0]) Z (fun _ => by kernel_rfl)) (jin U188 U3 k0 Z Z Z Z (jm Z (ja Z (jn (jx (jq (jr (jm Z (js (jf F35_0 Z) (js (jl k2 O3 Z Z) ?_))))))))))
 refine jfk (p := fun v => (v = .tuple #[.agg #[.int .i64 (limLo e.Op),.int .i64 (limHi e.Op)],.bool true] ∧ 1 ≤ e.Op ∧ e.Op ≤ 8) ∨ (v = .tuple #[.agg #[.int .i64 0,.int .i64 0],.bool false] ∧ ¬ (1 ≤ e.Op ∧ e.Op ≤ 8))) ⟨_,jlko U188 U3 J24 k0 Z Z,ltab e.Op⟩ ?_
 rintro v22 (⟨rfl,hop⟩ | ⟨rfl,hop⟩)
 refine jm Z (js (jex' Z Z) (js (jex' Z Z) (jalc J24 Z fun g6 => jsta k0 Z24 Z Z Z ⟨Z,Z,trivial⟩ (saf Z) (ja Z (jn (jx (jq (jb (jq (jr ?_))))))))))
 refine jm Z (js (jnot Z) (jm Z (jk Z Z (.f _) (jf F35_3 Z) (jk Z Z (.f _) (jl k3 O22 Z Z) (jdq (rEnd.c_To d0) fun q1 w1 => jk Z Z (.f _) (jln U22 (rEnd.c_To d0) Z) (jk Z Z (.f _) (jixa (i := 0) U24 Z3 Z Z Z (by omega)) (jk Z Z (.f _) (jl k0 O3 Z Z) (jk Z Z (.f _) (jlss Z Z) (js (jor Z Z) (jm Z ?_))))))))))
 refine jg Z Z (.f _) (fun hg => jf F35_3 Z) (jg Z Z (.f _) (fun hg => jl k3 O22 (evg Z hg) Z) (jg Z Z (.f _) (fun hg => jln U22 (rEnd.c_To d0) (evg Z hg)) (jg Z Z (.f _) (fun hg => jixa (i := 1) U24 Z3 Z Z Z (by first | omega | (simp at hg; omega))) (jg Z Z (.f _) (fun hg => jl k0 O3 (evg Z hg) Z) (jg Z Z (.f _) (fun hg => jgtr (evg Z hg) (evg Z hg)) (js (jor Z Z) (ja Z (jn (jx ?_)))))))))
 refine jif Z (fun hc1 => ?_) (fun hc1 => ?_)
 try simp only [false_or,true_and] at hc1
 refine jq (jr (ja Z (jn (jx (jrt (jbr (jtr ?_)))))))
 exact jrI Z Z (by first | (have ht : toM e = false := (by unfold toM; simp only [decide_eq_false_iff_not]; omega); unfold endE; rw [if_pos ht]; done) | (have ht : toM e = true := (by unfold toM; simp only [decide_eq_true_eq]; omega); unfold endE; rw [if_neg (by rw [ht]; decide)]; simp [*]; done))
 try simp only [false_or,true_and] at hc1
 refine jq (jr (js (jla k3 A35 Z35 Z Z Z) (jcd E29 Z Z pNeeds_ct (dc d0 dn) kn fun v46 q2 w2 => jcv E128 Z Z pRegs_ct (dc d0 dn) kn (js (jnot Z) (ja Z (jn (jx ?_)))))))
 refine jif Z (fun hc2 => ?_) (fun hc2 => ?_)
 refine jq (jr (ja Z (jn (jx (jrt (jbr (jtr ?_)))))))
 exact jrI Z Z (by first | (have ht : toM e = false := (by unfold toM; simp only [decide_eq_false_iff_not]; omega); unfold endE; rw [if_pos ht]; done) | (have ht : toM e = true := (by unfold toM; simp only [decide_eq_true_eq]; omega); unfold endE; rw [if_neg (by rw [ht]; decide)]; simp [*]; done))
 refine jq (jr (js (jf F35_3 Z) (js (jl k3 O22 Z Z) (js (jmf1 Z) (jcp E134 Z Z (anyFInt_ct (badB n) E135 (fun x _ => Tr.it (pEnd1_ct x n) i0)) (dc (rEnd.c_To d1) (dc (db dn) dn)) (kc k2 kn) p1 (ja Z (jn (jx ?_))))))))
 refine jif Z (fun hc3 => ?_) (fun hc3 => ?_)
 refine jq (jr (ja Z (jn (jx (jrt (jbr (jtr ?_)))))))
 exact jrI Z Z (by first | (have ht : toM e = false := (by unfold toM; simp only [decide_eq_false_iff_not]; omega); unfold endE; rw [if_pos ht]; done) | (have ht : toM e = true := (by unfold toM; simp only [decide_eq_true_eq]; omega); unfold endE; rw [if_neg (by rw [ht]; decide)]; simp [*]; done))
 refine jsk (jbn (jx (jq (jr (ja Z (jn (jx (jrt ?_))))))))
 exact jrI Z Z (by first | (have ht : toM e = false := (by unfold toM; simp only [decide_eq_false_iff_not]; omega); unfold endE; rw [if_pos ht]; done) | (have ht : toM e = true := (by unfold toM; simp only [decide_eq_true_eq]; omega); unfold endE; rw [if_neg (by rw [ht]; decide)]; simp [*]; done))
 refine jm Z (js (jex' Z Z) (js (jex' Z Z) (jalc J24 Z fun g6_4 => jsta k0 Z24 Z Z Z ⟨Z,Z,trivial⟩ (saf Z) (ja Z (jn (jx (jq (jb (jq (jr ?_))))))))))
 refine jm Z (js (jnot Z) (jm Z (jg Z Z (.f _) (fun hg => jf F35_3 Z) (jg Z Z (.f _) (fun hg => jl k3 O22 (evg Z hg) Z) (jdq (rEnd.c_To d0) fun q5 w5 => jg Z Z (.f _) (fun hg => jln U22 (rEnd.c_To d0) (evg Z hg)) (jg Z Z (.f _) (fun hg => jixa (i := 0) U24 Z3 Z Z Z (by first | omega | (simp at hg; omega))) (jg Z Z (.f _) (fun hg => jl k0 O3 (evg Z hg) Z) (jg Z Z (.f _) (fun hg => jlss (evg Z hg) (evg Z hg)) (js (jor Z Z) (jm Z ?_))))))))))
 refine jg Z Z (.f _) (fun hg => jf F35_3 Z) (jg Z Z (.f _) (fun hg => jl k3 O22 (evg Z hg) Z) (jg Z Z (.f _) (fun hg => jln U22 (rEnd.c_To d0) (evg Z hg)) (jg Z Z (.f _) (fun hg => jixa (i := 1) U24 Z3 Z Z Z (by first | omega | (simp at hg; omega))) (jg Z Z (.f _) (fun hg => jl k0 O3 (evg Z hg) Z) (jg Z Z (.f _) (fun hg => jgtr (evg Z hg) (evg Z hg)) (js (jor Z Z) (ja Z (jn (jx ?_)))))))))
 refine jif Z (fun hc4 => ?_) (fun hc4 => ?_)
 refine jq (jr (ja Z (jn (jx (jrt (jbr (jtr ?_)))))))
 exact jrI Z Z (by first | (have ht : toM e = false := (by unfold toM; simp only [decide_eq_false_iff_not]; omega); unfold endE; rw [if_pos ht]; done) | (have ht : toM e = true := (by unfold toM; simp only [decide_eq_true_eq]; omega); unfold endE; rw [if_neg (by rw [ht]; decide)]; simp [*]; done))
 exact absurd hc4 (by simp)
theorem rTo_ct {a0 : Value} {e : D.End} : Tv Tryz.prog 179 #[vEnd e a0] [da rEnd (vEnd e a0) e] [] (.bool (toM e)) := by
 refine jenter (args := [vEnd e a0]) Tryz.func179 rfl rfl rfl fun w0 X => ?_
 refine jq (jr (jbox Z Z fun g1 => ja Z (jn (jx (jq (jr (js (jf F35_3 Z) (js (jl k0 O22 Z Z) (jdq (rEnd.c_To d0) fun q1 w1 => js (jln U22 (rEnd.c_To d0) Z) ?_)))))))))
 refine ja Z (jn (jx (jq (jq (jr (js (jf F35_0 Z) (js (jl k0 O3 Z Z) (jn (jx (jb (jq ?_)))))))))))
 refine jr (js (jeql Z Z) (ja Z (jn (jx ?_))))
 refine jif Z (fun hc1 => ?_) (fun hc1 => ?_)
 refine jq (jr (jm Z (js (jeql Z Z) (ja Z (jn (jx (jrt (jbr (jtr ?_)))))))))
 exact jrB Z Z (by unfold toM limLo limHi; rw [Bool.eq_iff_iff]; simp only [decide_eq_true_eq,Bool.and_eq_true,Bool.false_eq_true,iff_false]; (repeat' split) <;> omega)
 refine jq (jq (jr (js (jeql Z Z) (ja Z (jn (jx ?_))))))
 refine jif Z (fun hc2 => ?_) (fun hc2 => ?_)
 refine jsk (jx ?_)
 refine jif Z (fun hc3 => ?_) (fun hc3 => ?_)
 refine jq (jr (jm Z (js (jeql Z Z) (ja Z (jn (jx (jrt (jbr (jtr ?_)))))))))
 exact jrB Z Z (by unfold toM limLo limHi; rw [Bool.eq_iff_iff]; simp only [decide_eq_true_eq,Bool.and_eq_true,Bool.false_eq_true,iff_false]; (repeat' split) <;> omega)
 exact absurd hc3 (by simp [hc1,hc2])
 refine jq (jr (js (jeql Z Z) (ja Z (jn (jx ?_)))))
 refine jif Z (fun hc4 => ?_) (fun hc4 => ?_)
 refine jsk (jx ?_)
 refine jif Z (fun hc5 => ?_) (fun hc5 => ?_)
 refine jq (jr (jm Z (js (jeql Z Z) (ja Z (jn (jx (jrt (jbr (jtr ?_)))))))))
 exact jrB Z Z (by unfold toM limLo limHi; rw [Bool.eq_iff_iff]; simp only [decide_eq_true_eq,Bool.and_eq_true,Bool.false_eq_true,iff_false]; (repeat' split) <;> omega)
 exact absurd hc5 (by simp [hc1,hc2,hc4])
 refine jq (jr (js (jeql Z Z) (ja Z (jn (jx ?_)))))
 refine jif Z (fun hc6 => ?_) (fun hc6 => ?_)
 refine jsk (jx ?_)
 refine jif Z (fun hc7 => ?_) (fun hc7 => ?_)
 refine jq (jr (jm Z (js (jeql Z Z) (ja Z (jn (jx (jrt (jbr (jtr ?_)))))))))
 exact jrB Z Z (by unfold toM limLo limHi; rw [Bool.eq_iff_iff]; simp only [decide_eq_true_eq,Bool.and_eq_true,Bool.false_eq_true,iff_false]; (repeat' split) <;> omega)
 exact absurd hc7 (by simp [hc1,hc2,hc4,hc6])
 refine jr (js (jeql Z Z) (ja Z (jn (jx ?_))))
 refine jif Z (fun hc8 => ?_) (fun hc8 => ?_)
 refine jq (jr (jm Z (js (jeql Z Z) (ja Z (jn (jx (jrt (jbr (jtr ?_)))))))))
 exact jrB Z Z (by unfold toM limLo limHi; rw [Bool.eq_iff_iff]; simp only [decide_eq_true_eq,Bool.and_eq_true,Bool.false_eq_true,iff_false]; (repeat' split) <;> omega)
 refine jq (jr (js (jeql Z Z) (ja Z (jn (jx ?_)))))
 refine jif Z (fun hc9 => ?_) (fun hc9 => ?_)
 refine jq (jr (jm Z (js (jgeq Z Z) (jm Z (jg Z Z (.t _) (fun hg => jmv Z) (jg Z Z (.t _) (fun hg => jleq (evg Z hg) Z) (js (jand Z Z) (ja Z (jn (jx (jrt ?_)))))))))))
 refine jbr (jtr ?_)
 exact jrB Z Z (by unfold toM limLo limHi; rw [Bool.eq_iff_iff]; simp only [decide_eq_true_eq,Bool.and_eq_true,Bool.false_eq_true,iff_false]; (repeat' split) <;> omega)
 refine jq (jq (jr (js (jeql Z Z) (ja Z (jn (jx ?_))))))
 refine jif Z (fun hc10 => ?_) (fun hc10 => ?_)
 refine jsk (jx ?_)
 refine jif Z (fun hc11 => ?_) (fun hc11 => ?_)
 refine jq (jr (jm Z (js (jeql Z Z) (ja Z (jn (jx (jrt (jbr (jtr ?_)))))))))
 exact jrB Z Z (by unfold toM limLo limHi; rw [Bool.eq_iff_iff]; simp only [decide_eq_true_eq,Bool.and_eq_true,Bool.false_eq_true,iff_false]; (repeat' split) <;> omega)
 exact absurd hc11 (by simp [hc1,hc2,hc4,hc6,hc8,hc9,hc10])
 refine jr (js (jeql Z Z) (ja Z (jn (jx ?_))))
 refine jif Z (fun hc12 => ?_) (fun hc12 => ?_)
 refine jq (jr (jm Z (js (jeql Z Z) (ja Z (jn (jx (jrt (jbr (jtr ?_)))))))))
 exact jrB Z Z (by unfold toM limLo limHi; rw [Bool.eq_iff_iff]; simp only [decide_eq_true_eq,Bool.and_eq_true,Bool.false_eq_true,iff_false]; (repeat' split) <;> omega)
 refine jsk (jbn (jx (jq (jr (ja Z (jn (jx (jrt ?_))))))))
 exact jrB Z Z (by unfold toM limLo limHi; rw [Bool.eq_iff_iff]; simp only [decide_eq_true_eq,Bool.and_eq_true,Bool.false_eq_true,iff_false]; (repeat' split) <;> omega)
theorem E129 : Ent Tryz.prog 129 := ⟨_,Tryz.func129,by kernel_rfl,by kernel_rfl⟩
theorem E130 : Ent Tryz.prog 130 := ⟨_,Tryz.func130,by kernel_rfl,by kernel_rfl⟩
theorem E131 : Ent Tryz.prog 131 := ⟨_,Tryz.func131,by kernel_rfl,by kernel_rfl⟩
theorem E132 : Ent Tryz.prog 132 := ⟨_,Tryz.func132,by kernel_rfl,by kernel_rfl⟩
theorem F62_0 : Fld Tryz.prog 62 0 0 := ⟨_,_,Tryz.underlying62,rfl,rfl,1,(by unfold Sz; kernel_rfl),by decide⟩
theorem F62_1 : Fld Tryz.prog 62 1 1 := ⟨_,_,Tryz.underlying62,rfl,rfl,1,(by unfold Sz; kernel_rfl),by decide⟩
theorem F64_1 : Fld Tryz.prog 64 1 1 := ⟨_,_,Tryz.underlying64,rfl,rfl,1,(by unfold Sz; kernel_rfl),by decide⟩
theorem O60 : One Tryz.prog 60 := ⟨_,Tryz.underlying60,rfl⟩
theorem regM_append : ∀ (a b : List Int),regM (a ++ b) = (regM a && regM b)
 | [],b => rfl
 | x :: a,b => by simp only [List.cons_append,regM]; split <;> simp [regM_append a b]
theorem regM_vals : ∀ (l : List D.In),regM (l.map (·.Val)) = !anyM l (fun x => !regM [x.Val])
 | [] => rfl
 | x :: l => by
   have ih := regM_vals l
   unfold anyM at ih ⊢
   rw [List.map_cons,show x.Val :: l.map (·.Val) = [x.Val] ++ l.map (·.Val) from rfl,regM_append,ih,List.any_cons,Bool.not_or,Bool.not_not]
theorem regM_phi (d : Int) (l : List D.In) : regM (d :: l.map (·.Val)) = (regM [d] && !anyM l (fun x => !regM [x.Val])) := by
 rw [show d :: l.map (·.Val) = [d] ++ l.map (·.Val) from rfl,regM_append,regM_vals]
theorem phi_lo {p : D.Phi} {lo : List Int} {j : Nat} (hlo : lo = p.Dst :: (p.In.take j).map (·.Val)) (hj : p.In.length ≤ j) : regM lo = (regM [p.Dst] && !anyM p.In (fun x => !regM [x.Val])) := by
 rw [hlo,List.take_of_length_le hj,regM_phi]
theorem phiE_bad {p : D.Phi} {lo : List Int} {j : Nat} {ah : List D.Phi} (hlo : lo = p.Dst :: (p.In.take j).map (·.Val)) (hj : p.In.length ≤ j) (h : regM lo = false) : phiE p ah = 31 := by
 rw [phi_lo hlo hj,Bool.and_eq_false_iff] at h
 unfold phiE; rw [if_pos (by rcases h with h | h; (· exact .inl h); exact .inr (by simpa using h))]
theorem phiE_good {p : D.Phi} {lo : List Int} {j : Nat} {ah : List D.Phi} (hlo : lo = p.Dst :: (p.In.take j).map (·.Val)) (hj : p.In.length ≤ j) (h : regM lo = true) : phiE p ah = if anyM ah (fun x => decide (x.Dst = p.Dst)) = true then 12 else 0 := by
 rw [phi_lo hlo hj,Bool.and_eq_true] at h
 unfold phiE; rw [if_neg (by rw [h.1]; simpa using h.2)]
theorem phiE_hit {p : D.Phi} {lo : List Int} {j : Nat} {ah : List D.Phi} (hlo : lo = p.Dst :: (p.In.take j).map (·.Val)) (hj : p.In.length ≤ j) (h : regM lo = true) (h2 : anyM ah (fun x => decide (x.Dst = p.Dst)) = true) : phiE p ah = 12 := by
 rw [phiE_good hlo hj h,if_pos h2]
theorem phiE_ok {p : D.Phi} {lo : List Int} {j : Nat} {ah : List D.Phi} (hlo : lo = p.Dst :: (p.In.take j).map (·.Val)) (hj : p.In.length ≤ j) (h : regM lo = true) (h2 : anyM ah (fun x => decide (x.Dst = p.Dst)) = false) : phiE p ah = 0 := by
 rw [phiE_good hlo hj h,if_neg (by rw [h2]; decide)]
theorem any_hit {α : Type} [Inhabited α] {l : List α} {q : α → Bool} {k : Nat} (hk : k < l.length) (h1 : q (ix l k) = true) : anyM l q = true := List.any_eq_true.2 ⟨_,ix_mem hk,h1⟩
theorem any_no {α : Type} {l : List α} {q : α → Bool} (h : ∀ x ∈ l,q x = false) : anyM l q = false := by unfold anyM; rw [List.any_eq_false]; intro x hx; simp [h x hx]
theorem ix_take {α : Type} [Inhabited α] {l : List α} {i n : Nat} (h : i < n) : ix (l.take n) i = ix l i := by simp [ix,List.getD,h]
def rPhiM (l : List D.Phi) (n : Int) : Int := phiE (ix l (Int.toNat n)) (l.take (Int.toNat n))
theorem pPhi1_ct {x : D.In} : Tv Tryz.prog 130 #[vIn x ()] [da rIn (vIn x ()) x] [] (.bool ((fun x : D.In => !regM [x.Val]) x)) := by
 refine jenter (args := [vIn x ()]) Tryz.func130 rfl rfl rfl fun w0 X => ?_
 refine jq (jr (jbox Z Z fun g1 => ja Z (jn (jx (jq (jr (js (jf F64_1 Z) (js (jl k0 O3 Z Z) (jlit (r := (rI .i64)) (l := [x.Val]) U22 I3 (by decide) Z Z Z (lV Z Z (wI (rIn.W_Val d0)) ln) fun g5 => jc E128 Z Z (Tv.temp 1073741824 pRegs_ct (by (try simp) <;> omega)) dn (kc k0 kn) (fun _ => p0) (fun _ => p1) fun _ => ?_)))))))))
 refine js (jnot Z) (ja Z (jn (jx (jrt ?_))))
 exact jrB Z Z (by rfl)
theorem pPhi2_ct {a0 : Value} {x : D.Phi} {d : Int} {c : Value} {g1 : Nat} : Tr Tryz.prog 132 #[vPhi x a0,.pointer (some ⟨g1,0,none⟩)] [da rPhi (vPhi x a0) x] [bx g1 62 [.int .i64 d,c]] (fun _ : Unit => .bool ((fun (d : Int) (x : D.Phi) => decide (x.Dst = d)) d x)) (fun _ => []) (fun _ _ => [bx g1 62 [.int .i64 d,c]]) := by
 refine jenter (args := [vPhi x a0,.pointer (some ⟨g1,0,none⟩)]) Tryz.func132 rfl rfl rfl fun w0 X => ?_
 refine jq (jr (jbox Z Z fun g2 => ja Z (jn (jx (jq (jr (js (jf F62_0 Z) (js (jl k0 O3 Z Z) (js (jf F62_0 Z) (js (jl k1 O3 Z Z) ?_))))))))))
 refine js (jeql Z Z) (ja Z (jn (jx (jrt ?_))))
 exact jr1 Z Z () (congrArg Value.bool (Eq.symm (by rfl))) dn (fun _ _ => (kc k1 kn))
theorem pPhi_ct {a0 : Value} {p : D.Phi} {a1 : Value} {ahead : List D.Phi} : Tv Tryz.prog 90 #[vPhi p a0,a1] [da rPhi (vPhi p a0) p,dv (rL rPhi) a1 ahead] [] (.int .i64 (phiE p ahead)) := by
 refine jenter (args := [vPhi p a0,a1]) Tryz.func90 rfl rfl rfl fun w0 X => ?_
 refine jq (jr (jbox Z Z fun g2 => ja Z (jn (jx (jq (jq (jr (js (jf F62_0 Z) (js (jl k0 O3 Z Z) (jlit (r := (rI .i64)) (l := [p.Dst]) U22 I3 (by decide) Z Z Z (lV Z Z (wI (rPhi.W_Dst d0)) ln) fun g7 => ?_))))))))))
 refine jc E128 Z Z (Tv.temp 1073741824 pRegs_ct (by (try simp) <;> omega)) dn (kc k0 kn) (fun _ => p0) (fun _ => p1) fun _ => js (jnot Z) (jm Z (jg Z Z (.f _) (fun hg => jf F62_1 Z) (jg Z Z (.f _) (fun hg => jl k1 O60 (evg Z hg) Z) (jdq (rPhi.c_In d0) fun q1 w1 => jgcp Z Z (.f _) E129 Z (fun hg => evl2 (evg Z hg) Z) (fun hg => (anyFIn_ct (fun x : D.In => !regM [x.Val]) E130 (fun x _ c => Tr.it pPhi1_ct ir))) (fun hg => (dc (rPhi.c_In d0) (dc (db dn) dn))) kn p0 (js (jor Z Z) (jn (jx ?_)))))))
 refine jif Z (fun hc1 => ?_) (fun hc1 => ?_)
 refine jq (jr (ja Z (jn (jx (jrt (jtr ?_))))))
 exact jrI Z Z (by unfold phiE; simp [*]; done)
 refine jsk (jx (jq (jq (jr (jm Z (js (jmf1 Z) (jdq d1 fun q2 w2 => jcp E131 Z Z (anyFPhi_ct (fun x : D.Phi => decide (x.Dst = p.Dst)) E132 (fun x _ c => Tr.it pPhi2_ct ir)) (dc d1 (dc (db dn) dn)) (kc k1 kn) p1 (jn (jx ?_)))))))))
 refine jif Z (fun hc2 => ?_) (fun hc2 => ?_)
 refine jq (jr (ja Z (jn (jx (jrt (jtr ?_))))))
 exact jrI Z Z (by unfold phiE; simp [*]; done)
 refine jsk (jx (jq (jr (ja Z (jn (jx (jrt ?_)))))))
 exact jrI Z Z (by unfold phiE; simp [*]; done)
set_option maxRecDepth 4000 in
theorem rPhi_ct {a0 : Value} {l : List D.Phi} (n : Int) (hn : 0 ≤ n ∧ n < l.length) : Tv Tryz.prog 162 #[a0,.int .i64 n] [dv (rL rPhi) a0 l] [] (.int .i64 (rPhiM l n)) := by
 refine jenter (args := [a0,.int .i64 n]) Tryz.func162 rfl rfl rfl fun w0 X => ?_
 refine jq (jr (ja Z (jn (jx (jq (jr (jm Z (jm Z (jdq d0 fun q1 w1 => js (jix (i := (Int.toNat n)) U32 Z62 d0 Z Z (by omega) (by omega)) (js (jf F62_0 Z) ?_))))))))))
 refine js (jlI (rPhi.A_Dst (dix d0 (Int.toNat n) (by omega))) O3 Z) (jlit (r := (rI .i64)) (l := [(ix l (Int.toNat n)).Dst]) U22 I3 (by decide) Z Z Z (lV Z Z (wI (wad (rPhi.A_Dst (dix d0 (Int.toNat n) (by omega))))) ln) fun g13 => ja Z (jn (jx (jq (jq (jr (ja Z (jn (jx (jb ?_))))))))))
 refine jlp (u3 fun (j : Nat) (vo : Value) (lo : List Int) => ⟨j ≤ (ix l (Int.toNat n)).In.length ∧ lo = (ix l (Int.toNat n)).Dst :: ((ix l (Int.toNat n)).In.take j).map (·.Val),[dv (rL rPhi) a0 l],[gl X.n (rI .i64) 3 vo lo],[(0,a0),(1,.int .i64 n),(4,.int .i64 0),(5,vo),(6,.int .i64 (↑j))],(ix l (Int.toNat n)).In.length - j⟩) (0,(.slice (some ⟨g13,0,none⟩) 1 1),[(ix l (Int.toNat n)).Dst]) ⟨by dsimp only; omega,rfl⟩ (dc d0 dn) (kc k0 kn) ⟨Z,Z,Z,Z,eqI (by omega),trivial⟩ ?_
 rintro ⟨j,vo,lo⟩; dsimp only [u3]; rintro ⟨hj,hlo⟩
 refine cgo k0 fun w2 => ?_
 have hll : lo.length = j + 1 := by rw [hlo]; simp; omega
 refine jq (jq (jr (jm Z (jm Z (jm Z (js (jix (i := (Int.toNat n)) U32 Z62 d0 Z Z (by omega) (by omega)) (js (jf F62_1 Z) (jev (jlV (rPhi.A_In (dix d0 (Int.toNat n) (by omega))) O60 Z Z) fun v19 q3 w3 => js (jln U60 d0 Z) (js (jlss Z Z) (jn ?_))))))))))
 refine jx ?_
 refine jif Z (fun hc1 => ?_) (fun hc1 => ?_)
 refine jsk (jx (jq (jb (jr (jm Z (jm Z (jm Z (js (jix (i := (Int.toNat n)) U32 Z62 d1 Z Z (by omega) (by omega)) (js (jf F62_1 Z) (jev (jlV (rPhi.A_In (dix d1 (Int.toNat n) (by omega))) O60 Z Z) fun v29 q5 w5 => jm Z ?_))))))))))
 refine js (jix U60 Z64 d0 Z Z Z (by omega)) (js (jf F64_1 Z) (js (jlI (rIn.A_Val (dix d0 j (by omega))) O3 Z) (japv U22 I3 (by decide) Z Z k0 Z (wI (wad (rIn.A_Val (dix d0 j (by omega))))) (by omega) (fun _ => Z) fun v35 _ w7 => ja Z (jn (jbn (jx (jr (jm Z (js (jadd Z Z (by omega)) (ja Z ?_))))))))))
 refine jn ?_
 exact jag (j + 1,v35,lo ++ [(ix ((ix l (Int.toNat n)).In) j).Val]) ⟨by dsimp only; omega,by dsimp only; rw [hlo,take_ix (by omega),List.map_append]; rfl⟩ (dc d2 dn) (kc k0 kn) ⟨Z,Z,Z,Z,eqI (by omega),trivial⟩
 refine jex (jtx (jtx (jbh (jx (jq (jq (jr (jm Z (jc E177 Z Z (Tv.temp 4294967296 rReg_ct (by omega)) dn (kc k0 kn) (fun _ => p0) (fun _ => p1) fun _ => js (jnot Z) (jn ?_))))))))))
 refine jx ?_
 refine jif Z (fun hc2 => ?_) (fun hc2 => ?_)
 refine jq (jr (ja Z (jn (jx (jrt (jtr ?_))))))
 exact jrI Z Z (by first | exact phiE_bad hlo (by omega) hc2 | exact phiE_hit hlo (by omega) hc2 (any_hit (k := i) (by simp; omega) (by rw [ix_take (by omega)]; exact decide_eq_true hc4)) | exact phiE_ok hlo (by omega) hc2 (any_no (by rw [List.take_of_length_le (by simp; omega)] at hno; exact hno)))
 refine jsk (jx (jq (jq (jr (ja Z (jn (jx (jb ?_))))))))
 refine jlp (fun (i : Nat) => ⟨(i : Int) ≤ n ∧ (∀ x ∈ (l.take (Int.toNat n)).take i,decide (x.Dst = (ix l (Int.toNat n)).Dst) = false),[dv (rL rPhi) a0 l],[],[(0,a0),(1,.int .i64 n),(7,.int .i64 (↑i))],(Int.toNat n) - i⟩) 0 ⟨by omega,by simp⟩ (dc d1 dn) kn ⟨Z,Z,eqI (by omega),trivial⟩ ?_
 rintro i; dsimp only; rintro ⟨hi,hno⟩
 refine jq (jq (jr (jm Z (jm Z (js (jlss Z Z) (jn (jx ?_)))))))
 refine jif Z (fun hc3 => ?_) (fun hc3 => ?_)
 refine jsk (jx (jq (jb (jq (jstl Mixed (by kernel_rfl) (jt (jmv Z) (jt (jmv Z) (jt (jix U32 Z62 d0 Z Z Z (by omega)) (jt (jf F62_0 Z) (jt (jlI (rPhi.A_Dst (dix d0 i (by omega))) O3 Z) (jt (jmv Z) ?_)))))))))))
 refine jt (jmv Z) (jt (jix (i := (Int.toNat n)) U32 Z62 d0 Z Z (by omega) (by omega)) (jt (jf F62_0 Z) (jt (jlI (rPhi.A_Dst (dix d0 (Int.toNat n) (by omega))) O3 Z) (jt (jeql Z Z) (jdn (jx ?_))))))
 refine jif Z (fun hc4 => ?_) (fun hc4 => ?_)
 refine jq (jr (ja Z (jn (jx (jrt (jbr (jtr (jtr (jbr (jtr ?_))))))))))
 exact jrI Z Z (by first | exact phiE_bad hlo (by omega) hc2 | exact phiE_hit hlo (by omega) hc2 (any_hit (k := i) (by simp; omega) (by rw [ix_take (by omega)]; exact decide_eq_true hc4)) | exact phiE_ok hlo (by omega) hc2 (any_no (by rw [List.take_of_length_le (by simp; omega)] at hno; exact hno)))
 refine jsk (jbn (jx (jr (jm Z (js (jadd Z Z (by omega)) (ja Z (jn ?_)))))))
 exact jag (i + 1) ⟨by omega,no_snoc (by simp; omega) hno (by rw [ix_take (by omega)]; exact decide_eq_false hc4)⟩ (dc d0 dn) kn ⟨Z,Z,eqI (by omega),trivial⟩
 refine jex (jtx (jtx (jbh (jx (jq (jr (ja Z (jn (jx (jrt ?_))))))))))
 exact jrI Z Z (by first | exact phiE_bad hlo (by omega) hc2 | exact phiE_hit hlo (by omega) hc2 (any_hit (k := i) (by simp; omega) (by rw [ix_take (by omega)]; exact decide_eq_true hc4)) | exact phiE_ok hlo (by omega) hc2 (any_no (by rw [List.take_of_length_le (by simp; omega)] at hno; exact hno)))
end Go.Proofs.YtehhjlkmbdhckaaGreat
namespace Go.JE
variable {P : Program} {D D0 D1 E : List Dt} {L M N Ls L0 Rs : List Res} {e : Env} {X : Cx} {n : Fs} {w0 : World} {Q : Exit → Act → World → Prop} {F G : PH} {H : Heap} {R : Res} {i k : Nat}
theorem Own.focus : ∀ {Rs : List Res} {i : Nat} (hi : i < Rs.length),Own Rs k ↔ Own (Rs[i] :: Rs.set i (it [])) k
 | R :: Rs,0,_ => ⟨fun h => h.imp id .inr,fun h => h.imp id (·.resolve_left id)⟩
 | R :: Rs,i + 1,hi => by
   have ih := Own.focus (Rs := Rs) (i := i) (by simpa using hi)
   simp only [Own,List.getElem_cons_succ,List.set_cons_succ] at ih ⊢
   rw [ih]
   constructor
   · rintro (h | h | h)
     · exact .inr (.inl h)
     · exact .inl h
     · exact .inr (.inr h)
   · rintro (h | h | h)
     · exact .inr (.inl h)
     · exact .inl h
     · exact .inr (.inr h)
theorem Ok.focus : ∀ {Rs : List Res} {i : Nat} (hi : i < Rs.length),Ok F H Rs ↔ Ok F H (Rs[i] :: Rs.set i (it []))
 | R :: Rs,0,_ => ⟨fun ⟨a,b,c⟩ => ⟨a,fun k h ho => b k h (ho.resolve_left id),trivial,fun _ h => h.elim,c⟩,fun ⟨a,b,_,_,c⟩ => ⟨a,fun k h ho => b k h (.inr ho),c⟩⟩
 | R :: Rs,i + 1,hi => by
   have hi' : i < Rs.length := by simpa using hi
   have ih := Ok.focus (Rs := Rs) (i := i) hi'
   simp only [List.getElem_cons_succ,List.set_cons_succ]
   constructor
   · rintro ⟨a,b,c⟩
     obtain ⟨x,y,z⟩ := ih.1 c
     refine ⟨x,?_,a,fun k hk ho => b k hk ((Own.focus hi').2 (.inr ho)),z⟩
     rintro k hk (ho | ho)
     · exact b k ho ((Own.focus hi').2 (.inl hk))
     · exact y k hk ho
   · rintro ⟨x,y,a,b,z⟩
     refine ⟨a,fun k hk ho => ?_,ih.2 ⟨x,fun k hk ho => y k hk (.inr ho),z⟩⟩
     rcases (Own.focus hi').1 ho with h | h
     · exact y k h (.inl hk)
     · exact b k hk h
theorem Hp.focus (h : Hp X D (it Rs :: M) F H) (hi : i < Rs.length) : Hp X D (Rs[i] :: it (Rs.set i (it [])) :: M) F H := by
 have o := Ok.un.1 h.ok
 refine ⟨h.hx,h.hin,h.hw,h.hd,?_,fun k hk => ?_⟩
 · obtain ⟨a,b,c⟩ := h.ok
   obtain ⟨x,y,z⟩ := (Ok.focus hi).1 a
   exact ⟨x,fun k hk ho => ho.elim (y k hk) (b k ((Own.focus hi).2 (.inl hk))),z,fun k hk => b k ((Own.focus hi).2 (.inr hk)),c⟩
 · rcases hk with hk | hk | hk
   · exact h.ge k (.inl ((Own.focus hi).2 (.inl hk)))
   · exact h.ge k (.inl ((Own.focus hi).2 (.inr hk)))
   · exact h.ge k (.inr hk)
theorem Hp.unfocus (h : Hp X D (R :: it (Rs.set i (it [])) :: M) F H) (hi : i < Rs.length) : Hp X D (it (Rs.set i R) :: M) F H := by
 have hi2 : i < (Rs.set i R).length := by simpa using hi
 have e1 : (Rs.set i R)[i] = R := by simp
 have e2 : (Rs.set i R).set i (it []) = Rs.set i (it []) := by simp
 refine ⟨h.hx,h.hin,h.hw,h.hd,?_,fun k hk => ?_⟩
 · obtain ⟨a,b,c,d,f⟩ := h.ok
   refine ⟨(Ok.focus hi2).2 (by rw [e1,e2]; exact ⟨a,fun k hk ho => b k hk (.inl ho),c⟩),fun k hk => ?_,f⟩
   have hk' := (Own.focus hi2).1 hk
   rw [e1,e2] at hk'
   exact hk'.elim (fun h1 h2 => b k h1 (.inr h2)) (d k)
 · rcases hk with hk | hk
   · have hk' := (Own.focus hi2).1 hk
     rw [e1,e2] at hk'
     exact hk'.elim (fun h1 => h.ge k (.inl h1)) (fun h1 => h.ge k (.inr (.inl h1)))
   · exact h.ge k (.inr (.inr hk))
theorem Hp.front (h : Hp X D L F H) (hk : Tk L R M) : Hp X D (R :: M) F H := ⟨h.hx,h.hin,h.hw,h.hd,hk.ok h.ok,fun k h1 => h.ge k (hk.own h1)⟩
def rV : Rp Value where
 sz := 1
 agg := false
 ok _ u f := f 0 = u ∧ u.oneCell' = true
 up _ h := h
 ext he h := by rw [← he 0 (by omega)]; exact h
 one h i hi := by rw [show i = 0 by omega,h.1]; exact h.2
theorem wV {u : Value} (h : u.oneCell' = true) : Nd D L (dv rV u u) := fun _ _ _ _ _ => ⟨rfl,h⟩
section
variable {α : Type} {r : Rp α} {T To : TypeId} {B : Nat} {v u v' : Value} {vs : List Value} {ls : List (List α)} {l l' : List α}
def rws (B : Nat) (r : Rp α) (T : TypeId) (vs : List Value) (ls : List (List α)) : List Res := List.zipWith (gl B r T) vs ls
theorem zip_set {β γ δ : Type} (f : β → γ → δ) : ∀ (a : List β) (b : List γ) (i : Nat) (x : β) (y : γ),(List.zipWith f a b).set i (f x y) = List.zipWith f (a.set i x) (b.set i y)
 | [],_,_,_,_ => by simp
 | _ :: _,[],i,_,_ => by cases i <;> simp
 | _ :: _,_ :: _,0,_,_ => rfl
 | _ :: a,_ :: b,i + 1,x,y => by simp [zip_set f a b i x y]
def hole (i : Nat) (B : Nat) (r : Rp α) (T : TypeId) (vs : List Value) (ls : List (List α)) : Res := it ((rws B r T vs ls).set i (it []))
abbrev rw' (B : Nat) (r : Rp α) (T : TypeId) (vs : List Value) (ls : List (List α)) : Res := it (rws B r T vs ls)
section
variable {ops : Array Oper} {rest : List Oper} {c : Code} {m : Nat}
theorem rws_ix (h1 : i < vs.length) (h2 : i < ls.length) : ∃ h,(rws B r T vs ls)[i]'h = gl B r T (vs.getD i undef) (ls.getD i []) :=
 ⟨by simp [rws]; omega,by simp [rws,h1,h2]⟩
theorem Hp.row (hp : Hp X D L F H) (hk : Tk L (rw' B r T vs ls) M) (h1 : i < vs.length) (h2 : i < ls.length) : Hp X D (gl B r T (vs.getD i undef) (ls.getD i []) :: hole i B r T vs ls :: M) F H := by
 obtain ⟨h3,h4⟩ := rws_ix (B := B) (r := r) (T := T) h1 h2
 have := (hp.front hk).focus h3
 rw [h4] at this; exact this
theorem Hp.unrow (hp : Hp X D (gl B r T v' l' :: hole i B r T vs ls :: M) F H) (h1 : i < vs.length) (h2 : i < ls.length) : Hp X D (rw' B r T (vs.set i v') (ls.set i l') :: M) F H := by
 obtain ⟨h3,_⟩ := rws_ix (B := B) (r := r) (T := T) h1 h2
 have := hp.unfocus h3
 unfold rws at this
 rw [zip_set] at this; exact this
theorem jro (i : Nat) (hk : Tk L (rw' B r T vs ls) M) (h1 : i < vs.length) (h2 : i < ls.length) (k : LH P n w0 ops Q X D (gl B r T (vs.getD i undef) (ls.getD i []) :: hole i B r T vs ls :: M) e rest) : LH P n w0 ops Q X D L e rest := fun F H hp => k F H (hp.row hk h1 h2)
theorem jru (hk : Tk L (gl B r T v' l') M) (hk2 : Tk M (hole i B r T vs ls) N) (h1 : i < vs.length) (h2 : i < ls.length) (k : LH P n w0 ops Q X D (rw' B r T (vs.set i v') (ls.set i l') :: N) e rest) : LH P n w0 ops Q X D L e rest := fun F H hp => by
 have h3 := hp.front hk
 have h4 : Hp X D (gl B r T v' l' :: hole i B r T vs ls :: N) F H := ⟨h3.hx,h3.hin,h3.hw,h3.hd,by
     obtain ⟨a,b,c⟩ := h3.ok
     obtain ⟨x,y,z⟩ := hk2.ok c
     exact ⟨a,fun k hk ho => b k hk (hk2.own ho),x,y,z⟩,fun k hk => hk.elim (fun h => h3.ge k (.inl h)) (fun h => h3.ge k (.inr (hk2.own h)))⟩
 exact k F H (h4.unrow h1 h2)
theorem set_same {β : Type} (l : List β) (i : Nat) (z : β) : l.set i (l.getD i z) = l := by
 by_cases h : i < l.length
 · simp [List.getD,h]
 · rw [List.set_eq_of_length_le (by omega)]
theorem jrx (hk : Tk L (gl B r T (vs.getD i undef) (ls.getD i [])) M) (hk2 : Tk M (hole i B r T vs ls) N) (h1 : i < vs.length) (h2 : i < ls.length) (k : LH P n w0 ops Q X D (rw' B r T vs ls :: N) e rest) : LH P n w0 ops Q X D L e rest :=
 jru hk hk2 h1 h2 (by rw [set_same,set_same]; exact k)
theorem jrn (m : Nat) (k : LH P n w0 ops Q X D (rw' X.n r T (List.replicate m (.slice none 0 0)) (List.replicate m []) :: L) e rest) : LH P n w0 ops Q X D L e rest := fun F H hp => by
 have h1 : ∀ m k,¬ Own (rws X.n r T (List.replicate m (.slice none 0 0)) (List.replicate m [])) k := by
   intro m k
   induction m with
   | zero => exact id
   | succ m ih => exact fun h => h.elim (fun h => by cases h) ih
 have h2 : ∀ m,Ok F H (rws X.n r T (List.replicate m (.slice none 0 0)) (List.replicate m [])) := by
   intro m
   induction m with
   | zero => trivial
   | succ m ih => exact ⟨⟨Gl.nil _ _ _,hp.hw.1⟩,(fun k h => by cases h),ih⟩
 exact k F H (hp.new (R := rw' X.n r T (List.replicate m (.slice none 0 0)) (List.replicate m [])) (Kp.refl _ _) (h2 m) (fun k h => (h1 m k h).elim))
theorem jgW {x : Operand} (hk : Tk L (gl B rV To v vs) M) (hi : i < vs.length) (hT : One P T) (hx : ev e x = some (.pointer (some ⟨vblk v,voff v + i * 1,none⟩))) : OH P D L e (.load T x) (vs.getD i undef) := fun F H _ _ h => by
 obtain ⟨u,h1,h2⟩ := OpOk.ldGV (hk.ok h).1.1 hi hT rfl hx
 have e1 : u = vs.getD i undef := h2.1
 exact e1 ▸ h1
theorem rws_freeze : ∀ {vs : List Value} {ls : List (List α)} {F : PH},InH F H → Ok F H (rws B r T vs ls) → vs.length = ls.length → (∀ l ∈ ls,l.length < 1073741824) → ∃ G,F.le G ∧ InH G H ∧ (∀ k,k < B → G k = F k) ∧ (∀ k,¬ Own (rws B r T vs ls) k → G k = F k) ∧ ∀ i (h1 : i < vs.length) (h2 : i < ls.length),(rL r).rv G vs[i] ls[i]
 | [],[],F,hin,_,_,_ => ⟨F,PH.le.refl F,hin,fun _ _ => rfl,fun _ _ => rfl,fun i h1 => by cases h1⟩
 | v :: vs,l :: ls,F,hin,⟨⟨a,a2⟩,b,c⟩,hl,hM => by
   obtain ⟨G,h1,h2,h3,h4,h5⟩ := a.freeze (N := 1073741824) hin (hM l (.head _))
   have c' : Ok G H (rws B r T vs ls) := c.st h1 (Nat.le_refl _) (fun k hk => (h4 k (fun e1 => b k e1 hk)).trans (c.no hk)) (fun _ _ => rfl)
   obtain ⟨K,g1,g2,g3,g4,g5⟩ := rws_freeze h2 c' (by simpa using hl) (fun l hl => hM l (.tail _ hl))
   refine ⟨K,h1.trans g1,g2,fun k hk => (g3 k hk).trans (h3 k hk),fun k hk => (g4 k (fun h => hk (.inr h))).trans (h4 k (fun h => hk (.inl h))),fun i => ?_⟩
   cases i with
   | zero => exact fun _ _ => Rp.rv.up h5 g1
   | succ i => exact fun h1 h2 => g5 i (by simpa using h1) (by simpa using h2)
 | [],_ :: _,_,_,_,hl,_ => by cases hl
 | _ :: _,[],_,_,_,hl,_ => by cases hl
theorem rows_rv (h : (rLn m rV).rv F v vs) (hl : vs.length = ls.length) (hr : ∀ i (h1 : i < vs.length) (h2 : i < ls.length),(rL r).rv F vs[i] ls[i]) : (rLn m (rL r)).rv F v ls := by
 obtain ⟨a,b,c,d,f,g,g',x,y⟩ := h
 refine ⟨hl ▸ a,b,c,hl ▸ d,hl ▸ f,fun i hi => g i (by rw [hl]; exact hi),g',fun i hi => x i (by rw [hl]; exact hi),fun i hi => ?_⟩
 have hi' : i < vs.length := hl ▸ hi
 have h1 := hr i hi' hi
 have h2 := y i hi'
 refine (rL r).ext (fun j hj => ?_) h1
 rw [show j = 0 from Nat.lt_one_iff.1 hj]
 exact h2.1.symm
theorem Hp.freezes (hp : Hp X D L F H) (hk : Tk L (gl X.n rV To v vs) M) (hk2 : Tk M (rw' X.n r T vs ls) N) (hl : vs.length = ls.length) (h0 : ls.length < 1073741824) (hM : ∀ l ∈ ls,l.length < 1073741824) : ∃ G,Hp X (dv (rL (rL r)) v ls :: D) N G H := by
 have h1 := hp.front hk
 obtain ⟨o1,o2,o3⟩ := h1.ok
 obtain ⟨q1,q2,q3⟩ := hk2.ok o3
 have o1' : Gl rV To F H X.n v vs := o1.1
 obtain ⟨G,f1,f2,f3,f4,f5⟩ := o1'.freeze (N := 1073741824) hp.hin (by omega)
 have q1' : Ok G H (rws X.n r T vs ls) := Ok.st f1 (Nat.le_refl _) (fun k hk => (f4 k (fun e1 => o2 k e1 (hk2.own (.inl hk)))).trans (Ok.no (L := rws X.n r T vs ls) q1 hk)) (fun _ _ => rfl) q1
 obtain ⟨K,g1,g2,g3,g4,g5⟩ := rws_freeze f2 q1' hl hM
 have h6 : ∀ k,Own N k → K k = F k := fun k hk1 => (g4 k (fun h => q2 k h hk1)).trans (f4 k (fun e1 => o2 k e1 (hk2.own (.inr hk1))))
 have hx2 : ∀ k,k < X.n → K k = F k := fun k hk1 => (g3 k hk1).trans (f3 k hk1)
 refine ⟨K,⟨hp.hx.1.trans (f1.trans g1),fun k hk1 => (hx2 k hk1).trans (hp.hx.2 k hk1)⟩,g2,hp.hw,⟨rows_rv (Rp.rv.up f5 g1) hl g5,hp.hd.up (f1.trans g1)⟩,q3.st (f1.trans g1) (Nat.le_refl _) (fun k hk1 => (h6 k hk1).trans (q3.no hk1)) (fun _ _ => rfl),fun k hk1 => h1.ge k (.inr (hk2.own (.inr hk1)))⟩
theorem cfr (hk : Tk L (gl X.n rV To v vs) M) (hk2 : Tk M (rw' X.n r T vs ls) N) (hl : vs.length = ls.length) (h0 : ls.length < 1073741824) (hM : ∀ l ∈ ls,l.length < 1073741824) (k : CH P n w0 Q X (dv (rL (rL r)) v ls :: D) N e c) : CH P n w0 Q X D L e c := fun F H hp => by
 obtain ⟨G,h⟩ := hp.freezes hk hk2 hl h0 hM; exact k G H h
theorem qfr {z : Exit} (hk : Tk L (gl X.n rV To v vs) M) (hk2 : Tk M (rw' X.n r T vs ls) N) (hl : vs.length = ls.length) (h0 : ls.length < 1073741824) (hM : ∀ l ∈ ls,l.length < 1073741824) (k : QH n w0 Q X (dv (rL (rL r)) v ls :: D) N e z) : QH n w0 Q X D L e z := fun F H hp => by
 obtain ⟨G,h⟩ := hp.freezes hk hk2 hl h0 hM; exact k G H h
theorem jfr (hk : Tk L (gl X.n rV To v vs) M) (hk2 : Tk M (rw' X.n r T vs ls) N) (hl : vs.length = ls.length) (h0 : ls.length < 1073741824) (hM : ∀ l ∈ ls,l.length < 1073741824) (k : LH P n w0 ops Q X (dv (rL (rL r)) v ls :: D) N e rest) : LH P n w0 ops Q X D L e rest := fun F H hp => by
 obtain ⟨G,h⟩ := hp.freezes hk hk2 hl h0 hM; exact k G H h
end
end
end Go.JE
namespace Go.Proofs.YtehhjlkmbdhckaaGreat
open Go.JE
abbrev U4 := @Tryz.underlying4
abbrev U93 := @Tryz.underlying93
theorem E139 : Ent Tryz.prog 139 := ⟨_,Tryz.func139,by kernel_rfl,by kernel_rfl⟩
theorem E169 : Ent Tryz.prog 169 := ⟨_,Tryz.func169,by kernel_rfl,by kernel_rfl⟩
theorem F64_0 : Fld Tryz.prog 64 0 0 := ⟨_,_,Tryz.underlying64,rfl,rfl,1,(by unfold Sz; kernel_rfl),by decide⟩
theorem O4 : One Tryz.prog 4 := ⟨_,Tryz.underlying4,rfl⟩
theorem Z4 : Sz Tryz.prog 4 1 := by unfold Sz; kernel_rfl
theorem J64 : (Tryz.prog.info? 64).bind (·.zero) = some (.agg #[.int .i64 0,.int .i64 0]) := by kernel_rfl
def predsT (bs : List D.MBlock) (k : Nat) (b : Int) : List Int := ((List.range k).filter (fun a : Nat => decide (b ∈ (ix bs a).End.To))).map (fun a : Nat => (a : Int))
def predsM (bs : List D.MBlock) (b : Int) : List Int := predsT bs bs.length b
theorem predsT_succ (bs : List D.MBlock) (k : Nat) (b : Int) : predsT bs (k + 1) b = predsT bs k b ++ if b ∈ (ix bs k).End.To then [(k : Int)] else [] := by
 unfold predsT
 rw [List.range_succ,List.filter_append,List.map_append]
 congr 1
 by_cases h : b ∈ (ix bs k).End.To <;> simp [h]
theorem predsT_lt (bs : List D.MBlock) (k : Nat) (b : Int) : ∀ x ∈ predsT bs k b,x < k := by
 intro x hx
 unfold predsT at hx
 obtain ⟨a,ha,rfl⟩ := List.mem_map.1 hx
 have := List.mem_range.1 (List.mem_filter.1 ha).1
 omega
theorem predsT_len (bs : List D.MBlock) (k : Nat) (b : Int) : (predsT bs k b).length ≤ k := by
 unfold predsT
 rw [List.length_map]
 exact Nat.le_trans (List.length_filter_le _ _) (by simp)
def predsJ (bs : List D.MBlock) (k j : Nat) (b : Int) : List Int := predsT bs k b ++ if b ∈ (ix bs k).End.To.take j then [(k : Int)] else []
theorem predsJ_zero (bs : List D.MBlock) (k : Nat) (b : Int) : predsJ bs k 0 b = predsT bs k b := by simp [predsJ]
theorem predsJ_end (bs : List D.MBlock) (k j : Nat) (b : Int) (h : (ix bs k).End.To.length ≤ j) : predsJ bs k j b = predsT bs (k + 1) b := by
 rw [predsT_succ]; unfold predsJ; rw [List.take_of_length_le h]
theorem predsJ_len (bs : List D.MBlock) (k j : Nat) (b : Int) : (predsJ bs k j b).length ≤ k + 1 := by
 have := predsT_len bs k b
 unfold predsJ; rw [List.length_append]; split <;> simp <;> omega
theorem predsJ_mem (bs : List D.MBlock) (k j : Nat) (b : Int) : (k : Int) ∈ predsJ bs k j b ↔ b ∈ (ix bs k).End.To.take j := by
 unfold predsJ
 rw [List.mem_append]
 constructor
 · rintro (h | h)
   · have := predsT_lt bs k b _ h; omega
   · split at h
     · assumption
     · cases h
 · intro h; rw [if_pos h]; exact .inr (by simp)
theorem predsJ_old {bs : List D.MBlock} {k j : Nat} (hj : j < (ix bs k).End.To.length) (h : (k : Int) ∈ predsJ bs k j (ix (ix bs k).End.To j)) (b : Int) : predsJ bs k (j + 1) b = predsJ bs k j b := by
 rw [predsJ_mem] at h
 unfold predsJ
 rw [take_ix hj]
 by_cases h1 : b ∈ (ix bs k).End.To.take j
 · rw [if_pos (by simp [h1]),if_pos h1]
 · have h2 : b ≠ ix (ix bs k).End.To j := by rintro rfl; exact h1 h
   rw [if_neg (by simp [h1,h2]),if_neg h1]
theorem predsJ_new {bs : List D.MBlock} {k j : Nat} (hj : j < (ix bs k).End.To.length) (h : ¬ (k : Int) ∈ predsJ bs k j (ix (ix bs k).End.To j)) (b : Int) :
   predsJ bs k (j + 1) b = if b = ix (ix bs k).End.To j then predsJ bs k j b ++ [(k : Int)] else predsJ bs k j b := by
 rw [predsJ_mem] at h
 unfold predsJ
 rw [take_ix hj]
 by_cases h1 : b = ix (ix bs k).End.To j
 · subst h1; rw [if_pos (by simp),if_neg h,if_pos rfl]; simp
 · rw [if_neg h1]
   by_cases h2 : b ∈ (ix bs k).End.To.take j
   · rw [if_pos (by simp [h2]),if_pos h2]
   · rw [if_neg (by simp [h1,h2]),if_neg h2]
def bfsIn : List Bool → List Int → List Int → List Bool × List Int
 | seen,q,[] => (seen,q)
 | seen,q,t :: ts => if ix seen t.toNat = true then bfsIn seen q ts else bfsIn (seen.set t.toNat true) (q ++ [t]) ts
def bfs (bs : List D.MBlock) : Nat → List Bool → List Int → List Bool
 | 0,seen,_ => seen
 | _ + 1,seen,[] => seen
 | f + 1,seen,x :: q => bfs bs f (bfsIn seen (x :: q) (ix bs x.toNat).End.To).1 ((bfsIn seen (x :: q) (ix bs x.toNat).End.To).2.drop 1)
def reachedM (bs : List D.MBlock) : List Bool := bfs bs bs.length ((List.replicate bs.length false).set 0 true) [0]
def cntF (l : List Bool) : Nat := l.countP (fun x => !x)
theorem cntF_set {l : List Bool} {i : Nat} (hi : i < l.length) (h : ¬ ix l i = true) : cntF (l.set i true) + 1 = cntF l := by
 unfold cntF
 have h2 : l[i] = false := by rw [← ix_eq hi]; simpa using h
 rw [List.countP_set hi]
 have : 0 < l.countP (fun x => !x) := List.countP_pos_iff.2 ⟨_,List.getElem_mem hi,by simp [h2]⟩
 simp [h2]; omega
def badPhi (bs : List D.MBlock) (b : Nat) (p : D.Phi) : Bool := decide (b = 0) || !decide (p.In.map (·.From) = predsM bs b)
def graphPhis (bs : List D.MBlock) : Nat → List D.MBlock → Int × Int × Int
 | _,[] => (0,0,0)
 | b,x :: l => match x.Phis.findIdx? (badPhi bs b) with
   | some i => (16,b,-1 - i)
   | none => graphPhis bs (b + 1) l
def graphM (m : D.MFunc) : Int × Int × Int := if 0 ≤ idxM (reachedM m.Blocks) (fun x => false == x) then (15,idxM (reachedM m.Blocks) (fun x => false == x),0) else graphPhis m.Blocks 0 m.Blocks
def eqfM (a : List D.In) (b : List Int) : Bool := decide (a.map (·.From) = b)
theorem eqf_len {a : List D.In} {b : List Int} (h : ¬ a.length = b.length) : eqfM a b = false := by simp only [eqfM,decide_eq_false_iff_not]; intro h1; have := congrArg List.length h1; simp at this; omega
theorem eqf_at {a : List D.In} {b : List Int} {k : Nat} (h1 : k < a.length) (h2 : a.length = b.length) (h : ¬ (ix a k).From = ix b k) : eqfM a b = false := by
 simp only [eqfM,decide_eq_false_iff_not]
 rintro rfl
 rw [ix_eq h1,ix_eq (by simpa using h1)] at h
 simp at h
theorem eqf_yes {a : List D.In} {b : List Int} {k : Nat} (h1 : a.length ≤ k) (h2 : a.length = b.length) (h : (a.take k).map (·.From) = b.take k) : eqfM a b = true := by
 rw [List.take_of_length_le h1,List.take_of_length_le (by omega)] at h
 simp [eqfM,h]
def hasM (l : List Int) (x : Int) : Bool := decide (x ∈ l)
theorem has_any (l : List Int) (x : Int) : decide (0 ≤ idxM l (fun y => decide (x = y))) = hasM l x := by
 rw [idx_any]; unfold anyM hasM
 rw [Bool.eq_iff_iff,List.any_eq_true,decide_eq_true_eq]
 constructor
 · rintro ⟨y,hy,h⟩; simp at h; subst h; exact hy
 · intro h; exact ⟨x,h,by simp⟩
section
variable {bs : List D.MBlock} {k j n : Nat} {ls : List (List Int)}
theorem stepOld (hj : j < (ix bs k).End.To.length) (hls : ∀ b : Nat,b < n → ls.getD b [] = predsJ bs k j b) (ht : 0 ≤ ix (ix bs k).End.To j ∧ ix (ix bs k).End.To j < n) (h : hasM (ls.getD (ix (ix bs k).End.To j).toNat []) k = true) :
   ∀ b : Nat,b < n → ls.getD b [] = predsJ bs k (j + 1) b := by
 intro b hb
 have h1 := hls (ix (ix bs k).End.To j).toNat (by omega)
 rw [show (((ix (ix bs k).End.To j).toNat : Nat) : Int) = ix (ix bs k).End.To j by omega] at h1
 unfold hasM at h; rw [h1,decide_eq_true_eq] at h
 rw [predsJ_old hj h]; exact hls b hb
theorem stepNew (hj : j < (ix bs k).End.To.length) (hls : ∀ b : Nat,b < n → ls.getD b [] = predsJ bs k j b) (ht : 0 ≤ ix (ix bs k).End.To j ∧ ix (ix bs k).End.To j < n) (hl : ls.length = n) (h : hasM (ls.getD (ix (ix bs k).End.To j).toNat []) k = false) :
   ∀ b : Nat,b < n → (ls.set (ix (ix bs k).End.To j).toNat (ls.getD (ix (ix bs k).End.To j).toNat [] ++ [(k : Int)])).getD b [] = predsJ bs k (j + 1) b := by
 intro b hb
 have h1 := hls (ix (ix bs k).End.To j).toNat (by omega)
 rw [show (((ix (ix bs k).End.To j).toNat : Nat) : Int) = ix (ix bs k).End.To j by omega] at h1
 unfold hasM at h; rw [h1,decide_eq_false_iff_not] at h
 rw [predsJ_new hj h]
 by_cases e1 : b = (ix (ix bs k).End.To j).toNat
 · subst e1
   rw [if_pos (by omega),h1,show (((ix (ix bs k).End.To j).toNat : Nat) : Int) = ix (ix bs k).End.To j by omega]
   have : (ix (ix bs k).End.To j).toNat < ls.length := by omega
   simp [List.getD,this]
 · rw [if_neg (by omega),← hls b hb]
   simp [List.getD,List.getElem?_set_ne (Ne.symm e1)]
theorem rows_len (hl : ls.length = n) (hn : n < 1073741824) (hls : ∀ b : Nat,b < n → ls.getD b [] = predsT bs k b) (hk : k ≤ n) : ∀ l ∈ ls,l.length < 1073741824 := by
 intro l hm
 obtain ⟨i,hi,rfl⟩ := List.mem_iff_getElem.1 hm
 have h1 := hls i (by omega)
 rw [List.getD,List.getElem?_eq_getElem hi] at h1
 simp only [Option.getD_some] at h1
 rw [h1]
 have := predsT_len bs k i
 omega
theorem row_len (hn : n < 1073741824) (hls : ∀ b : Nat,b < n → ls.getD b [] = predsJ bs k j b) (hk : k < n) {t : Nat} (ht : t < n) : (ls.getD t []).length < 1073741825 := by
 rw [hls t ht]; have := predsJ_len bs k j t; omega
theorem cnt_start (hn : 0 < n) : cntF ((List.replicate n false).set 0 true) + [(0 : Int)].length ≤ n := by
 have := cntF_set (l := List.replicate n false) (i := 0) (by simpa using hn) (by rw [ix_eq (by simpa using hn)]; simp)
 have h2 : cntF (List.replicate n false) = n := by unfold cntF; rw [List.countP_replicate]; rfl
 simp only [List.length_cons,List.length_nil]; omega
theorem bfs_nil (f : Nat) (se : List Bool) : bfs bs f se [] = se := by cases f <;> rfl
theorem bfs_step {f : Nat} {se : List Bool} {q : List Int} (hf : 0 < f) (hq : 0 < q.length) : bfs bs f se q = bfs bs (f - 1) (bfsIn se q (ix bs (ix q 0).toNat).End.To).1 ((bfsIn se q (ix bs (ix q 0).toNat).End.To).2.drop 1) := by
 obtain ⟨f,rfl⟩ : ∃ g,f = g + 1 := ⟨f - 1,by omega⟩
 match q,hq with
 | x :: q,_ => rfl
theorem phis_bad {l : List D.MBlock} (hk : k < l.length) {i : Nat} (hi : i < (ix l k).Phis.length) (hG : graphPhis bs 0 l = graphPhis bs k (l.drop k)) (hno : ∀ p ∈ (ix l k).Phis.take i,badPhi bs k p = false) (h : badPhi bs k (ix (ix l k).Phis i) = true) : graphPhis bs 0 l = (16,(k : Int),-1 - (i : Int)) := by
 rw [hG,drop_ix hk,graphPhis]
 have := idx_hit hi hno h
 unfold idxM at this
 split at this
 · rename_i a ha; (try rw [ha]); have : a = i := by omega
   subst this; rfl
 · omega
theorem phis_good {l : List D.MBlock} (hk : k < l.length) {i : Nat} (hi : (ix l k).Phis.length ≤ i) (hG : graphPhis bs 0 l = graphPhis bs k (l.drop k)) (hno : ∀ p ∈ (ix l k).Phis.take i,badPhi bs k p = false) : graphPhis bs 0 l = graphPhis bs (k + 1) (l.drop (k + 1)) := by
 rw [hG,drop_ix hk,graphPhis]
 rw [List.take_of_length_le hi] at hno
 rw [List.findIdx?_eq_none_iff.2 hno]
end
def idxInt (l : List Int) (x : Int) : Int := idxM l (fun y => decide (x = y))
theorem idxInt_ct {a0 : Value} {l : List Int} {N0 : Nat} (x : Int) : Tv Tryz.prog 169 #[a0,.int .i64 x] [dv (rLn N0 (rI .i64)) a0 l] [] (.int .i64 (idxInt l x)) := by
 refine jenter (args := [a0,.int .i64 x]) Tryz.func169 rfl rfl rfl fun w0 X => ?_
 refine jq (jr (ja Z (jn (jx (jq (jq (jr (jm Z (jdq d0 fun q1 w1 => js (jln U22 d0 Z) (jm Z ?_))))))))))
 refine jn (jx (jb ?_))
 refine jlp (fun (k : Nat) => ⟨k ≤ l.length ∧ (∀ y ∈ l.take k,decide (x = y) = false),[dv (rLn N0 (rI .i64)) a0 l],[],[(0,a0),(1,.int .i64 x),(7,.int .i64 (↑(List.length l))),(8,.int .i64 (↑k))],l.length - k⟩) 0 ⟨by omega,by simp⟩ (dc d0 dn) kn ⟨Z,Z,Z,eqI (by omega),trivial⟩ ?_
 rintro k; dsimp only; rintro ⟨hk,hR⟩
 refine jq (jr (js (jlss Z Z) (jn (jx (jq ?_)))))
 refine jif Z (fun hc1 => ?_) (fun hc1 => ?_)
 refine jsk (jx (jq (jb (jq (jr (jm Z (ja Z (jn (jx (jq (jr ?_)))))))))))
 refine jm Z (jm Z (jm Z (js (jix U22 Z3 d0 Z Z Z (by omega)) (js (jlI (dix d0 k (by omega)) O3 Z) (js (jeql Z Z) (jn (jx ?_)))))))
 refine jif Z (fun hc2 => ?_) (fun hc2 => ?_)
 refine jq (jr (jm Z (ja Z (jn (jx (jrt (jbr (jtr (jtr (jbr (jtr ?_)))))))))))
 exact jrI Z Z (idx_hit (q := fun y => decide (x = y)) (by omega) hR (decide_eq_true hc2))
 refine jsk (jbn (jx (jr (js (jadd Z Z (by omega)) (jm Z (jn ?_))))))
 exact jag (k + 1) ⟨by omega,no_snoc (q := fun y => decide (x = y)) (by omega) hR (decide_eq_false hc2)⟩ (dc d0 dn) kn ⟨Z,Z,Z,eqI (by omega),trivial⟩
 refine jex (jtx (jtx (jbh (jx (jq (jr (ja Z (jn (jx (jrt ?_))))))))))
 exact jrI Z Z (idx_none (q := fun y => decide (x = y)) (by omega) hR)
def idxBool (l : List Bool) (x : Bool) : Int := idxM l (fun y => (x == y))
theorem idxBool_ct {a0 : Value} {l : List Bool} {N0 : Nat} (x : Bool) : Tv Tryz.prog 137 #[a0,.bool x] [dv (rLn N0 rB) a0 l] [] (.int .i64 (idxBool l x)) := by
 refine jenter (args := [a0,.bool x]) Tryz.func137 rfl rfl rfl fun w0 X => ?_
 refine jq (jr (ja Z (jn (jx (jq (jq (jr (jm Z (jdq d0 fun q1 w1 => js (jln U93 d0 Z) (jm Z ?_))))))))))
 refine jn (jx (jb ?_))
 refine jlp (fun (k : Nat) => ⟨k ≤ l.length ∧ (∀ y ∈ l.take k,(x == y) = false),[dv (rLn N0 rB) a0 l],[],[(0,a0),(1,.bool x),(7,.int .i64 (↑(List.length l))),(8,.int .i64 (↑k))],l.length - k⟩) 0 ⟨by omega,by simp⟩ (dc d0 dn) kn ⟨Z,Z,Z,eqI (by omega),trivial⟩ ?_
 rintro k; dsimp only; rintro ⟨hk,hR⟩
 refine jq (jr (js (jlss Z Z) (jn (jx (jq ?_)))))
 refine jif Z (fun hc1 => ?_) (fun hc1 => ?_)
 refine jsk (jx (jq (jb (jq (jr (jm Z (ja Z (jn (jx (jq (jr ?_)))))))))))
 refine jm Z (jm Z (jm Z (js (jix U93 Z4 d0 Z Z Z (by omega)) (js (jlB (dix d0 k (by omega)) O4 Z) (js (jeqlB U4 Z Z) (jn (jx ?_)))))))
 refine jif Z (fun hc2 => ?_) (fun hc2 => ?_)
 refine jq (jr (jm Z (ja Z (jn (jx (jrt (jbr (jtr (jtr (jbr (jtr ?_)))))))))))
 exact jrI Z Z (idx_hit (q := fun y => (x == y)) (by omega) hR hc2)
 refine jsk (jbn (jx (jr (js (jadd Z Z (by omega)) (jm Z (jn ?_))))))
 exact jag (k + 1) ⟨by omega,no_snoc (q := fun y => (x == y)) (by omega) hR hc2⟩ (dc d0 dn) kn ⟨Z,Z,Z,eqI (by omega),trivial⟩
 refine jex (jtx (jtx (jbh (jx (jq (jr (ja Z (jn (jx (jrt ?_))))))))))
 exact jrI Z Z (idx_none (q := fun y => (x == y)) (by omega) hR)
theorem has_ct {a0 : Value} {l : List Int} {N0 : Nat} (x : Int) : Tv Tryz.prog 136 #[a0,.int .i64 x] [dv (rLn N0 (rI .i64)) a0 l] [] (.bool (hasM l x)) := by
 refine jenter (args := [a0,.int .i64 x]) Tryz.func136 rfl rfl rfl fun w0 X => ?_
 refine jq (jr (ja Z (jn (jx (jq (jr (jm Z (jm Z (jdq d0 fun q1 w1 => jcv E169 Z Z (idxInt_ct x) (dc d0 dn) kn (js (jgeq Z Z) ?_))))))))))
 refine ja Z (jn (jx (jrt ?_)))
 exact jrB Z Z ((has_any l x).symm)
theorem pGraph1_ct {x : D.In} (y : Int) : Tv Tryz.prog 139 #[vIn x (),.int .i64 y] [da rIn (vIn x ()) x] [] (.bool ((fun (x : D.In) (y : Int) => decide (x.From = y)) x y)) := by
 refine jenter (args := [vIn x (),.int .i64 y]) Tryz.func139 rfl rfl rfl fun w0 X => ?_
 refine jq (jr (jbox Z Z fun g2 => ja Z (jn (jx (jq (jr (js (jf F64_0 Z) (js (jl k0 O3 Z Z) (jm Z (js (jeql Z Z) ?_))))))))))
 refine ja Z (jn (jx (jrt ?_)))
 exact jrB Z Z (by rfl)
theorem eqf_ct {a0 : Value} {a : List D.In} {a1 : Value} {b : List Int} : Tv Tryz.prog 138 #[a0,a1,.func (.func 139) #[] #[]] [dv (rL rIn) a0 a,dv (rL (rI .i64)) a1 b] [] (.bool (eqfM a b )) := by
 refine jenter (args := [a0,a1,.func (.func 139) #[] #[]]) Tryz.func138 rfl rfl rfl fun w0 X => ?_
 refine jq (jr (ja Z (jn (jx (jq (jq (jr (jm Z (jdq d0 fun q1 w1 => js (jln U60 d0 Z) (jm Z ?_))))))))))
 refine jdq d1 fun q2 w2 => js (jln U22 d1 Z) (js (jneq Z Z) (jn (jx ?_)))
 refine jif Z (fun hc1 => ?_) (fun hc1 => ?_)
 refine jq (jr (ja Z (jn (jx (jrt (jtr ?_))))))
 exact jrB Z Z (eqf_len (by omega))
 refine jsk (jx (jq (jq (jr (jm Z (js (jln U60 d0 Z) (jm Z (jn (jx (jb ?_))))))))))
 refine jlp (fun (k : Nat) => ⟨k ≤ a.length ∧ (a.take k).map (·.From) = b.take k,[dv (rL rIn) a0 a,dv (rL (rI .i64)) a1 b],[],[(1,a1),(2,.func (.func 139) #[] #[]),(15,a0),(16,.int .i64 (↑(List.length a))),(17,.int .i64 (↑k))],a.length - k⟩) 0 ⟨by omega,rfl⟩ (dc d0 (dc d1 dn)) kn ⟨Z,Z,Z,Z,eqI (by omega),trivial⟩ ?_
 rintro k; dsimp only; rintro ⟨hk,hR⟩
 refine jq (jr (js (jlss Z Z) (jn (jx (jq ?_)))))
 refine jif Z (fun hc2 => ?_) (fun hc2 => ?_)
 refine jsk (jx (jq (jb (jq (jr (jm Z (js (jix U60 Z64 d0 Z Z Z (by omega)) (jA sIn (jlA (dix d0 k (by omega)) A64 Z64 Z) fun _ => jalc J64 Z fun g8 => ja Z (jsta k0 Z64 Z Z Z ⟨Z,Z,trivial⟩ (saf Z) ?_)))))))))
 refine jn (jx (jq (jr (jm Z (jm Z (js (jix U22 Z3 d2 Z Z Z (by omega)) (js (jlI (dix d2 k (by omega)) O3 Z) (ja Z (jn (jx (jq ?_)))))))))))
 refine jr (jm Z (js (jla k0 A64 Z64 Z Z Z) (jm Z (jcv E139 Z Z (pGraph1_ct (ix b k)) (dc d0 dn) kn (js (jnot Z) (jn (jx ?_)))))))
 refine jif Z (fun hc3 => ?_) (fun hc3 => ?_)
 refine jq (jr (ja Z (jn (jx (jrt (jbr (jtr (jtr (jbr (jtr ?_))))))))))
 exact jrB Z Z (eqf_at (k := k) (by omega) (by omega) hc3)
 refine jsk (jbn (jx (jr (js (jadd Z Z (by omega)) (jm Z (jn ?_))))))
 exact jag (k + 1) ⟨by omega,by rw [take_ix (by omega),take_ix (by omega),List.map_append,hR]; simp [hc3]⟩ (dc d1 (dc d2 dn)) kn ⟨Z,Z,Z,Z,eqI (by omega),trivial⟩
 refine jex (jtx (jtx (jbh (jx (jq (jr (ja Z (jn (jx (jrt ?_))))))))))
 exact jrB Z Z (eqf_yes (k := k) (by omega) (by omega) hR)
end Go.Proofs.YtehhjlkmbdhckaaGreat
