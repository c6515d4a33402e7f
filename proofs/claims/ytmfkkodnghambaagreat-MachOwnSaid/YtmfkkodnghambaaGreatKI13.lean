/- Lemmas that the claim is made of. Conditions: each lemma names its own. -/
import Derived.Test.YtmfkkodnghambaaGreatKI12
import Derived.OrdersIn
import Derived.Recover
import Derived.Test.YtmfkkodnghambaaGreatKI5
import Derived.Test.YtmfkkodnghambaaGreatKI4
import Derived.Test.YtmfkkodnghambaaGreatKI11
import Derived.Laws.BytesArg
import Derived.Laws.Strings
import Derived.Test.YtmfkkodnghambaaGreatKI6
set_option linter.unusedSectionVars false
set_option linter.unusedSimpArgs false
set_option linter.unusedVariables false
namespace Go.JE
variable {P : Program} {n : Fs} {w0 : World} {Q : Exit → Act → World → Prop} {e : Env} {H : Heap}
section
variable {N : Nat} {H1 H2 : Heap}
end
def Mk (H : Heap) (D : Nat) : Prop := H[D]? = some (.deferred (some []))
section
variable {D : Nat} {H' : Heap}
theorem Mk.lt (h : Mk H D) : D < H.size := (Array.getElem?_eq_some_iff.1 h).1
theorem Mk.of (h : Mk H D) (hb : H'[D]? = H[D]?) : Mk H' D := by unfold Mk at *; rw [hb]; exact h
theorem Mk.kp {B : Nat} (h : Mk H D) (hk : Kp B H H') (hb : D < B) : Mk H' D := h.of (hk.2 D hb)
end
def Nc (N : Nat) (H1 H2 : Heap) : Prop := ∀ k o,N ≤ k → H1[k]? = some o → o.isCells = false → H2[k]? = some o
section
variable {N : Nat} {H1 H2 H3 : Heap}
theorem Nc.refl (N : Nat) (H : Heap) : Nc N H H := fun _ _ _ h _ => h
theorem Nc.kp (h : Nc N H1 H2) (hk : Kp H2.size H2 H3) : Nc N H1 H3 := fun k o hN h1 ho => by
 have := h k o hN h1 ho
 rw [hk.2 k (Array.getElem?_eq_some_iff.1 this).1]; exact this
theorem Nc.kw {W : Nat → Prop} (h : Nc N H1 H2) (hk : Kw W H2 H3) (hw : ∀ k o,N ≤ k → H2[k]? = some o → W k → o.isCells = true) : Nc N H1 H3 := fun k o hN h1 ho => by
 have h2 := h k o hN h1 ho
 rw [hk.2 k (Array.getElem?_eq_some_iff.1 h2).1 ?_]; exact h2
 intro h9
 rw [hw k o hN h2 h9] at ho; cases ho
end
def Fs.marks (n : Fs) (Ds : List Nat) : Fs := ⟨n.sz,Ds.map (fun D => { target := .collected D,args := #[] }) ++ n.ds⟩
section
variable {fn : Func} {R : Value → Heap → Prop}
end
theorem all_cons {p : Nat → Prop} {D : Nat} {Ds : List Nat} (h : p D) (t : ∀ D ∈ Ds,p D) : ∀ E ∈ D :: Ds,p E := fun E hE => by
 rcases List.mem_cons.1 hE with rfl | hE
 · exact h
 · exact t E hE
section
variable {x : Code}
end
theorem Bx.same {H' : Heap} {g : Nat} {T : TypeId} {l : List Value} (h : Bx H' g T l) (h2 : Bx H g T l) : H'[g]? = H[g]? := by unfold Bx at h h2; rw [h,h2]
def Ir (H : Heap) (r : Nat) : Prop := ∃ a b c d,H[r]? = some (.mapIter a b c d)
section
variable {r : Nat} {H' : Heap}
theorem Ir.lt (h : Ir H r) : r < H.size := by obtain ⟨a,b,c,d,h⟩ := h; exact (Array.getElem?_eq_some_iff.1 h).1
theorem Ir.of (h : Ir H r) (hb : H'[r]? = H[r]?) : Ir H' r := by obtain ⟨a,b,c,d,h⟩ := h; exact ⟨a,b,c,d,hb.trans h⟩
theorem Ir.kp {B : Nat} (h : Ir H r) (hk : Kp B H H') (hb : r < B) : Ir H' r := h.of (hk.2 r hb)
theorem It.ir {b : Nat} {L : List (Int × Value)} {vis : List Int} (h : It H r b L vis) : Ir H r := by obtain ⟨es,c,seen,h1,h2,h3,_⟩ := h; exact ⟨_,_,_,_,h3⟩
end
theorem PH.ext.mark {F0 F G : PH} {D : Nat} (hx : PH.ext H F0 F) (hl : F.le G) (hn : ∀ k,k ≠ D → G k = F k) (hD : H.size ≤ D) : PH.ext H F0 G :=
 ⟨hx.1.trans hl,fun k hk => (hn k (by omega)).trans (hx.2 k hk)⟩
section
variable {P : Program} {e : Env} {H : Heap}
structure St2 (P : Program) (T : TypeId) (k : IntKind) : Prop where
 und : ∃ f0 f1, P.underlying T = some (.struct #[f0, f1]) ∧ f0.name ≠ "_" ∧ f1.name ≠ "_" ∧ f0.offset = 0 ∧ f1.offset = 1 ∧ P.underlying f0.type = some (.int k) ∧ P.underlying f1.type = some (.int k)
 stood : P.stoodInHeld T = false
 guard : P.eqGuardType P.depth T = false
end
end Go.JE
namespace Go.JE
variable {P : Program} {n : Fs} {w0 : World} {Q : Exit → Act → World → Prop} {e : Env} {H : Heap} {X : Cx} {D Ds : List Dt} {L M Ls : List Res}
theorem no_nop (Q : Exit → Act → World → Prop) : NoP (NO Q) = NO (NoP Q) := by
 funext x a w; cases x <;> rfl
theorem opRW {ro : Option Nat} {m : Nat} {ops : Array Oper} (hd : ∀ (i : Nat) (o : Oper),ops[i]? = some o → noDefer o = true) {K K' : Act → World → Prop} (hK : ∀ a w,K a w → K' a w) {i : Nat} {a : Act} {w : World} (h : wpOp P ops (NO Q) i K a w) : wpOpIn (RW ro) m P ops (NO Q) i K' a w := by
 unfold wpOp at h
 unfold wpOpIn
 cases ho : ops[i]? with
 | none => rw [ho] at h; exact hK _ _ h
 | some o =>
   rw [ho] at h
   dsimp only at h ⊢
   split at h
   · rename_i hw
     rw [if_pos hw]
     rcases h with h | ⟨_,h⟩
     · refine ⟨fun _ _ => trivial,?_⟩
       rw [Oper.semAt_eq _ _ _ (fun c hc => by have := hd i o ho; simp [noDefer,hc] at this)]
       exact uponRW hK _ h
     · exact (NO.lets h).elim
   · rename_i hw
     rw [if_neg hw]
     exact ⟨fun _ _ => trivial,hK _ _ h⟩
theorem anyRW {ro : Option Nat} {m : Nat} {ops : Array Oper} (hd : ∀ (i : Nat) (o : Oper),ops[i]? = some o → noDefer o = true) : ∀ (fuel : Nat) (listed : Array Bool) (a : Act) (w : World),wpAny P .any ops (NO Q) fuel listed a w → wpAnyIn (RW ro) m P .any ops (NO Q) fuel listed a w
 | 0,_,_,_,h => h
 | fuel + 1,_,_,_,h => ⟨h.1,fun i hi => opRW hd (fun a w h => anyRW hd fuel _ a w h) (h.2 i hi)⟩
theorem RCF.any {id : Nat} {l : List Oper} {z : Bool} {ro : Option Nat} {m : Nat} (S : Heap → Prop) (hm : P.follows .mixedOrders = true) (hd : l.all noDefer = true) (h : AF P n w0 l.toArray (NO Q) z S l.length (Array.replicate l.length false) e H) : RCF P n w0 ro m Q e (.region id l.toArray true) H := by
 intro a w hf hw
 have h1 := h a _ hf hw.drew
 rw [no_nop] at h1
 have hd' : ∀ (i : Nat) (o : Oper),l.toArray[i]? = some o → noDefer o = true := fun i o ho => List.all_eq_true.1 hd o (List.mem_of_getElem? (by simpa using ho))
 refine wpIn_mono (wpIn_region_any hm (anyRW hd' _ _ _ _ (AnyL.any (z := z) (S := fun w => S w.heap) _ _ _ _ ?_))) (fun x a w h => NoP.imp _ _ _ (NO.imp _ _ _ h))
 simpa using h1
def RCH (P : Program) (n : Fs) (w0 : World) (ro : Option Nat) (m : Nat) (Q : Exit → Act → World → Prop) (X : Cx) (D : List Dt) (L : List Res) (e : Env) (c : Code) : Prop := ∀ F H,Hp X D L F H → RCF P n w0 ro m Q e c H
section
variable {ro : Option Nat} {m : Nat} {x y : Code} {id : Nat} {l : List Oper}
theorem rb (h : RCH P n w0 ro m (Exit.inBlock id Q) X D L e x) : RCH P n w0 ro m Q X D L e (.block id x) := fun F H hp => RCF.block (h F H hp)
end
def Kq (Ow : Heap → Nat → Prop) (A B : Heap) : Prop := A.size ≤ B.size ∧ (∀ k o,A[k]? = some o → o.isCells = true → ¬ Ow A k → B[k]? = some o) ∧ ∀ k,Ow B k → Ow A k ∨ A.size ≤ k
theorem Kq.trans {Ow : Heap → Nat → Prop} {A B C : Heap} (h : Kq Ow A B) (h2 : Kq Ow B C) : Kq Ow A C := by
 refine ⟨Nat.le_trans h.1 h2.1,fun k o hk hc ho => ?_,fun k hk => ?_⟩
 · have hlt := (Array.getElem?_eq_some_iff.1 hk).1
   refine h2.2.1 k o (h.2.1 k o hk hc ho) hc fun h9 => ?_
   rcases h.2.2 k h9 with h8 | h8
   · exact ho h8
   · omega
 · rcases h2.2.2 k hk with h9 | h9
   · exact h.2.2 k h9
   · exact .inr (Nat.le_trans h.1 h9)
end Go.JE
namespace Go.JE
variable {P : Program} {n : Fs} {Q : Exit → Act → World → Prop} {e : Env} {w : World} {m : Nat} {F : PH} {D : List Dt}
section
variable {ops : Array Oper} {op : Op} {d : Nat} {ty : TypeId} {pos : String} {af : Array Edge} {rest : List Oper} {v : Value}
theorem YL.call {f : FuncId} {args : Array Value} {R : Value → Heap → Prop} (h : OpCall P e op w.heap f args) (hc : Ct P f args w.heap R) (K : ∀ v (w' : World),w'.os = w.os → w'.tape = w.tape → w'.output = w.output → R v w'.heap → YL P n ops Q m ((d,v) :: e) rest w') (hs : Nat.blt d n.sz = true := by rfl) (hn : noDefer ⟨some d,op,ty,pos,af,none⟩ = true := by rfl) :
   YL P n ops Q m e (⟨some d,op,ty,pos,af,none⟩ :: rest) w := by
 intro a hf
 refine wpListIn_plain rfl fun K' hK' => ⟨fun _ _ => trivial,?_⟩
 rw [Oper.semAt_eq _ _ _ (fun c hc => by simp only at hc; subst hc; cases hn),h a.eval _ w rfl (fun x u hx => hf.ev hx) rfl]
 refine ⟨fun h0 => (by simp [Fence.wide] at h0),(callsRW (hc w rfl)).mono fun x w' hx => ?_⟩
 obtain ⟨v,rfl,h1,h2,h3,h4⟩ := hx
 exact hK' _ _ (K v w' h1 h2 h3 h4 _ (hf.put hs v))
end
def PH.cl (F : PH) : PH := fun k => match F k with
 | some o => if o.isCells = true then some o else none
 | none => none
theorem PH.cl_some {F : PH} {k : Nat} {o : Obj} (h : F.cl k = some o) : F k = some o ∧ o.isCells = true := by
 unfold PH.cl at h
 split at h
 · rename_i o' h1
   split at h
   · rename_i h2; injection h with h; subst h; exact ⟨h1,h2⟩
   · cases h
 · cases h
theorem InH.cl {F : PH} {H : Heap} (h : InH F H) : InH F.cl H := fun k o hk => h k o (PH.cl_some hk).1
structure Lie (Ow : Heap → Nat → Prop) (F : PH) (H : Heap) : Prop where
 hin : InH F H
 cel : ∀ k o,F k = some o → o.isCells = true
 no : ∀ k o,F k = some o → ¬ Ow H k
end Go.JE
namespace Go.Proofs.YtmfkkodnghambaaGreat
open Go.JE
end Go.Proofs.YtmfkkodnghambaaGreat
namespace Go.JE
variable {P : Program} {n : Fs} {w0 : World} {Q : Exit → Act → World → Prop} {e : Env} {H : Heap} {X : Cx} {D D0 : List Dt} {L L0 M N : List Res} {M9 : Nat}
section
variable {f : FuncId} {fn : Func} {c : Code} {args : List Value} {ι : Type} {val : ι → Value} {dr : ι → List Dt} {lr : Nat → ι → List Res}
end
end Go.JE
namespace Go.JE
variable {P : Program} {n : Fs} {w0 : World} {Q : Exit → Act → World → Prop} {e : Env} {H A : Heap} {X : Cx} {D D0 : List Dt} {L L0 M N : List Res} {F G : PH} {k : Nat}
def OwM (a b go : Nat) (A : Heap) (k : Nat) : Prop := k = a ∨ k = b ∨ k = go ∨ ∃ cur E,A[go]? = some (.cells cur E (0,0)) ∧ ∃ v ∈ cur.toList,v.ownBlock = some k
theorem OwM.go {a b go : Nat} {A B : Heap} (h : B[go]? = A[go]?) {k : Nat} (hk : OwM a b go B k) : OwM a b go A k := by
 unfold OwM at *
 rw [h] at hk; exact hk
section
variable {α : Type} {r : Rp α} {T To Ta Tb : TypeId} {B a b go m : Nat} {va vb : Value} {vs : List Value} {ls : List (List α)}
end
section
variable {α : Type} {r : Rp α} {T To E : TypeId} {B go a b m' : Nat} {va vb v : Value} {vs : List Value} {ls : List (List α)} {l : List α} {Ta Tb : TypeId} {ro : Option Nat} {m : Nat} {c : Code}
end
end Go.JE
namespace Go.Proofs.YtmfkkodnghambaaGreat
open Go.JE
end Go.Proofs.YtmfkkodnghambaaGreat
namespace Go.JE
variable {P : Program} {D D0 : List Dt} {L M Ls L0 : List Res} {e : Env} {X : Cx} {n : Fs} {w0 : World} {Q : Exit → Act → World → Prop}
variable {ops : Array Oper} {op : Op} {d : Nat} {ty : TypeId} {pos : String} {af : Array Edge} {rest : List Oper} {T T' K E : TypeId} {x y z : Operand} {g : Nat} {l : List (Int × Value)} {k : Int} {v u : Value} {b : Bool}
end Go.JE
namespace Go.Proofs.YtmfkkodnghambaaGreat
open Go.JE
set_option maxRecDepth 4000
end Go.Proofs.YtmfkkodnghambaaGreat
namespace Go.Proofs.YtmfkkodnghambaaGreat
open Go.JE
set_option maxRecDepth 4000
end Go.Proofs.YtmfkkodnghambaaGreat
namespace Go.JE
variable {P : Program} {n : Fs} {w0 : World} {Q : Exit → Act → World → Prop} {e : Env} {H : Heap}
section
variable {f : FuncId} {fn : Func} {c : Code} {args : List Value} {D D0 : List Dt} {L L0 M : List Res} {X : Cx} {ι : Type} {val : ι → Value} {dr : ι → List Dt} {lr : Nat → ι → List Res}
end
end Go.JE
namespace Go.Proofs.YtmfkkodnghambaaGreat
open Go.JE
set_option maxRecDepth 4000
end Go.Proofs.YtmfkkodnghambaaGreat
namespace Go.JE
variable {P : Program} {D D0 : List Dt} {L M Ls L0 : List Res} {e : Env} {X : Cx} {n : Fs} {w0 : World} {Q : Exit → Act → World → Prop}
def VmR (l : List (Int × Value)) (V : Int → Int) : Prop := ∀ k,(lkM l k).getD (.int .i32 0) = .int .i32 (V k)
def vm (g : Nat) (V : Int → Int) : Res where
 sat F H := ((∃ l,Im H g l ∧ VmR l V) ∧ ∀ k,IntKind.i32.wrap (V k) = V k) ∧ F g = none
 own k := k = g
 lt := fun ⟨⟨⟨l,h,_⟩,_⟩,_⟩ e => e ▸ h.lt
 no := fun h e => e ▸ h.2
 st := fun _ _ h1 h2 ⟨⟨⟨l,h,h3⟩,h4⟩,_⟩ => ⟨⟨⟨l,h.of (h2 g rfl),h3⟩,h4⟩,h1 g rfl⟩
def setV (V : Int → Int) (k v : Int) : Int → Int := fun j => if j = k then v else V j
theorem VmR.up {l : List (Int × Value)} {V : Int → Int} (h : VmR l V) (k v : Int) : VmR (upM l k (.int .i32 v)) (setV V k v) := fun j => by
 rw [upM_lk]; unfold setV
 split
 · rfl
 · exact h j
theorem VmR.ins {l : List (Int × Value)} {V : Int → Int} (h : VmR l V) (k : Int) : VmR (insM l k (.int .i32 0)) V := fun j => by
 have hj := h j
 unfold insM
 split
 · exact hj
 · rename_i hk
   have e : lkM (l ++ [(k,Value.int .i32 0)]) j = (lkM l j).or (lkM [(k,Value.int .i32 0)] j) := by
     unfold lkM; rw [List.find?_append]; cases List.find? (fun p => p.1 == j) l <;> rfl
   rw [e]
   cases h1 : lkM l j with
   | some u => rw [h1] at hj; exact hj
   | none =>
     rw [h1] at hj
     rw [← hj]
     unfold lkM
     simp only [List.find?_cons,List.find?_nil]
     cases k == j <;> rfl
def encW (nx : List (Int × Int)) : List (Int × Value) := nx.map (fun p => (p.1,.int .i32 p.2))
def nm (g : Nat) (nx : List (Int × Int)) : Res := im g (encW nx)
def upW : List (Int × Int) → Int → Int → List (Int × Int)
 | [],k,v => [(k,v)]
 | p :: r,k,v => if p.1 == k then (k,v) :: r else p :: upW r k v
section
variable {ops : Array Oper} {op : Op} {d : Nat} {ty : TypeId} {pos : String} {af : Array Edge} {rest : List Oper} {T T' K E : TypeId} {x y z : Operand} {g r st : Nat} {V : Int → Int} {k v : Int} {nx : List (Int × Int)} {vis : List Int} {u : Value}
end
end Go.JE
namespace Go.Proofs.YtmfkkodnghambaaGreat
open Go.JE
def phWl (fr : Int) (V : Int → Int) (l : List D.Phi) (nx : List (Int × Int)) : List (Int × Int) := l.foldl (fun nx p => upW nx p.Dst (V (ix p.In (Int.toNat (idxM p.In (isFrom fr)))).Val)) nx
def lkW (nx : List (Int × Int)) (k : Int) : Option Int := (nx.find? (fun p => p.1 == k)).map (·.2)
def overW (nx : List (Int × Int)) (V : Int → Int) : Int → Int := fun k => (lkW nx k).getD (V k)
def phisV (fr : Int) (l : List D.Phi) (V : Int → Int) : Int → Int := overW (phWl fr V l []) V
def wT (t : D.Term) (V : Int → Int) : List Int := t.Args.map V ++ [0]
def termB (t : D.Term) (V : Int → Int) : Int :=
 if t.Kind = 1 then ix t.To 0
 else if t.Kind = 2 then (if ix (wT t V) 0 = 0 then ix t.To 1 else ix t.To 0)
 else if t.Kind = 3 then ix t.To (Int.toNat (min (IntKind.u32.wrap (ix (wT t V) 0)) ((t.To.length : Int) - 1)))
 else 0
def termE (t : D.Term) (en : Int) : Int := if t.Kind = 1 ∨ t.Kind = 2 ∨ t.Kind = 3 then en else if t.Kind = 4 then 1 else 2
def termV (t : D.Term) (V : Int → Int) (va : Int) : Int := if t.Kind = 1 ∨ t.Kind = 2 ∨ t.Kind = 3 then va else if t.Kind = 4 then ix (wT t V) 0 else t.Imm
def aI (i : D.Ins) (V : Int → Int) (k : Nat) : Int := ix (i.Args.map V) k
def inzV (i : D.Ins) (V : Int → Int) (me an : List Int) : Int → Int :=
 if i.Op = 1 then setV V i.Dst i.Imm
 else if i.Op = 15 then setV V i.Dst (loadM me (w32 (aI i V 0 + i.Imm))).1
 else if i.Op = 16 then V
 else if i.Op = 17 then (if 0 < an.length then setV (setV V i.Dst 0) i.Dst (ix an 0) else setV V i.Dst 0)
 else if i.Op = 18 then setV (setV V i.Dst (wideM (aI i V 0) (aI i V 1)).1) i.Two (wideM (aI i V 0) (aI i V 1)).2
 else setV V i.Dst (doM i.Op (aI i V 0) (aI i V 1)).1
def inzT (i : D.Ins) (V : Int → Int) (me : List Int) : Int := if i.Op = 15 then (if (loadM me (w32 (aI i V 0 + i.Imm))).2 = true then 0 else -2) else if i.Op = 16 then (if storeOk me (w32 (aI i V 0 + i.Imm)) (aI i V 1) = true then 0 else -2) else if i.Op = 1 ∨ i.Op = 17 ∨ i.Op = 18 then 0 else if (doM i.Op (aI i V 0) (aI i V 1)).2 = true then 0 else -1
def inzE (i : D.Ins) (V : Int → Int) (me : List Int) (en : Int) : Int := if inzT i V me = 0 then en else 2
def inzX (i : D.Ins) (V : Int → Int) (me : List Int) (va : Int) : Int := if inzT i V me = 0 then va else inzT i V me
def inzM (i : D.Ins) (V : Int → Int) (me : List Int) : List Int := if i.Op = 16 then storeM me (w32 (aI i V 0 + i.Imm)) (aI i V 1) else me
def inzC (i : D.Ins) (V : Int → Int) (cl : List D.Event) : List D.Event := if i.Op = 17 then cl ++ [⟨i.Imm,i.Args.map V⟩] else cl
def inzA (i : D.Ins) (an : List Int) : List Int := if i.Op = 17 then an.drop 1 else an
theorem u32_nn (n : Int) : 0 ≤ IntKind.u32.wrap n := by rw [IntKind.wrap_u32]; omega
def stE (en st ss : Int) : Int := if en = 0 ∧ ss ≤ st then 3 else en
def stV (en va st ss : Int) : Int := if en = 0 ∧ ss ≤ st then 0 else va
def stB (en st ss : Int) : Bool := decide (stE en st ss = 0)
def stS (en st ss : Int) : Int := if stE en st ss = 0 then st + 1 else st
structure RSt where
 V : Int → Int
 en : Int
 va : Int
 me : List Int
 cl : List D.Event
 st : Int
 an : List Int
def stepF (N : Int) (s : RSt) : RSt := { s with en := stE s.en s.st N,va := stV s.en s.va s.st N,st := stS s.en s.st N }
def stepOk (N : Int) (s : RSt) : Bool := stB s.en s.st N
def insF (i : D.Ins) (s : RSt) : RSt := ⟨inzV i s.V s.me s.an,inzE i s.V s.me s.en,inzX i s.V s.me s.va,inzM i s.V s.me,inzC i s.V s.cl,s.st,inzA i s.an⟩
def lisF (N : Int) : List D.Ins → RSt → RSt × Bool
 | [],s => (s,true)
 | i :: l,s => if stepOk N s = true then lisF N l (insF i (stepF N s)) else (stepF N s,false)
def termF (t : D.Term) (s : RSt) : RSt := { s with en := termE t s.en,va := termV t s.V s.va }
def phisF (fr : Int) (l : List D.Phi) (s : RSt) : RSt := { s with V := phisV fr l s.V }
def blocksF (bs : List D.Block) (N : Int) : Nat → Int → Int → RSt → RSt
 | 0,_,_,s => s
 | k + 1,a,fr,s =>
   if (lisF N (ix bs (Int.toNat a)).Ins (phisF fr (ix bs (Int.toNat a)).Phis s)).2 = true then
     (if stepOk N (lisF N (ix bs (Int.toNat a)).Ins (phisF fr (ix bs (Int.toNat a)).Phis s)).1 = true then
       (if (termF (ix bs (Int.toNat a)).Term (stepF N (lisF N (ix bs (Int.toNat a)).Ins (phisF fr (ix bs (Int.toNat a)).Phis s)).1)).en = 0 then
         blocksF bs N k (termB (ix bs (Int.toNat a)).Term (lisF N (ix bs (Int.toNat a)).Ins (phisF fr (ix bs (Int.toNat a)).Phis s)).1.V) a (termF (ix bs (Int.toNat a)).Term (stepF N (lisF N (ix bs (Int.toNat a)).Ins (phisF fr (ix bs (Int.toNat a)).Phis s)).1))
       else termF (ix bs (Int.toNat a)).Term (stepF N (lisF N (ix bs (Int.toNat a)).Ins (phisF fr (ix bs (Int.toNat a)).Phis s)).1))
     else stepF N (lisF N (ix bs (Int.toNat a)).Ins (phisF fr (ix bs (Int.toNat a)).Phis s)).1)
   else (lisF N (ix bs (Int.toNat a)).Ins (phisF fr (ix bs (Int.toNat a)).Phis s)).1
def outF (s : RSt) : D.Outcome := ⟨s.en,s.va,s.me,s.cl,s.st⟩
def argsV (l : List Int) : Nat → Int → Int
 | 0 => fun _ => 0
 | k + 1 => setV (argsV l k) k (ix l k)
def argsF (f : D.Func) (i : D.Input) : List Int := i.Args.take (Int.toNat (min (i.Args.length : Int) f.Params))
def startF (f : D.Func) (i : D.Input) : RSt := ⟨argsV (argsF f i) (argsF f i).length,0,0,memM i,[],0,i.Answers⟩
def runF (f : D.Func) (i : D.Input) : D.Outcome := outF (blocksF f.Blocks i.Steps (Int.toNat i.Steps + 1) 0 (-1) (startF f i))
section
variable {bs : List D.Block} {N a fr : Int} {k : Nat} {s s' : RSt}
end
set_option maxRecDepth 4000
end Go.Proofs.YtmfkkodnghambaaGreat
namespace Go.Proofs.YtmfkkodnghambaaGreat
open Go.JE
set_option maxRecDepth 4000
end Go.Proofs.YtmfkkodnghambaaGreat
namespace Go.Proofs.YtmfkkodnghambaaGreat
open Go.JE
set_option maxRecDepth 4000
end Go.Proofs.YtmfkkodnghambaaGreat
namespace Go.Proofs.YtmfkkodnghambaaGreat
open Go.JE
set_option maxRecDepth 4000
end Go.Proofs.YtmfkkodnghambaaGreat
namespace Go.Proofs.YtmfkkodnghambaaGreat
open Go.JE
set_option maxRecDepth 4000
end Go.Proofs.YtmfkkodnghambaaGreat
namespace Go.Proofs.YtmfkkodnghambaaGreat
open Go.JE
def ret3 (v : Int) : D.Term := ⟨4,[v],[],0⟩
attribute [local irreducible] runF
end Go.Proofs.YtmfkkodnghambaaGreat
namespace Go.Proofs.YtmfkkodnghambaaGreat
open Go.JE
def aok (op : Int) (n : Nat) : Prop := (operM op).1 ≤ (n : Int) ∧ (n : Int) ≤ (operM op).2
instance (op : Int) (n : Nat) : Decidable (aok op n) := by unfold aok; infer_instance
def tok (t : D.Term) : Prop := (t.Kind = 2 ∨ t.Kind = 3 → t.Args.length = 1) ∧ (t.Kind = 1 ∨ t.Kind = 5 → t.Args.length = 0) ∧ (t.Kind = 4 → t.Args.length ≤ 1)
def AB (bs : List D.Block) : Prop := ∀ j,(∀ i ∈ (ix bs j).Ins,aok i.Op i.Args.length) ∧ tok (ix bs j).Term
theorem AB.put {bs : List D.Block} {b : Nat} {x : D.Block} (h : AB bs) (hi : ∀ i ∈ x.Ins,i ∈ (ix bs b).Ins ∨ aok i.Op i.Args.length) (ht : x.Term = (ix bs b).Term ∨ tok x.Term) : AB (bs.set b x) := fun j => by
 by_cases hb : b < bs.length
 · rw [ix_set hb]; split
   · rename_i e; subst e
     exact ⟨fun i h1 => (hi i h1).elim ((h _).1 i) id,ht.elim (fun e => e ▸ (h _).2) id⟩
   · exact h j
 · rw [List.set_eq_of_length_le (by omega)]; exact h j
def AG (m m' : Mk) : Prop := AB m.bs → AB m'.bs
section
variable {m m' m2 : Mk} {j : Int} {b : Nat}
theorem AG.rf : AG m m := id
theorem AG.tr (h : AG m m') (h2 : AG m' m2) : AG m m2 := fun h3 => h2 (h h3)
theorem AG.same (h2 : m'.bs = m.bs) : AG m m' := fun h => h2 ▸ h
theorem AG.ad {i : D.Ins} (h2 : m'.bs = m.bs) (hi : aok i.Op i.Args.length) : AG m (addS j i m') := fun h => by
 show AB (m'.bs.set _ _)
 rw [h2]
 exact h.put (fun x hx => (List.mem_append.1 hx).imp id (fun h1 => by simp at h1; subst h1; exact hi)) (.inl rfl)
theorem AG.con {v : Int} (h : AG m m') : AG m (constS j v m') := h.tr (AG.ad (m' := freshS m') rfl (by show aok 1 0; decide))
theorem AG.tk (h : AG m m') : AG m (tSS m') := h.tr (.same rfl)
theorem AG.wd (h : AG m m') : AG m (wordS m') := h.tr (.same rfl)
theorem AG.aF {op x v : Int} {a : List Int} (h : AG m m') (ho : aok op a.length) : AG m (addS j ⟨op,x,0,a,v⟩ (freshS m')) := h.tr (AG.ad rfl ho)
theorem AG.aT {op x v : Int} {a : List Int} (h : AG m m') (ho : aok op a.length) : AG m (addS j ⟨op,x,0,a,v⟩ (tSS (freshS m'))) := h.tr (AG.ad rfl ho)
theorem AG.val (h : AG m m') : AG m (valueS m') := by unfold valueS; split; exact h; exact .tk (.tk h)
theorem AG.som0 (h : AG m m') : AG m (someM0 m') := by
 unfold someM0; split
 · exact .tk (.val h)
 · exact .val h
theorem AG.som (h : AG m m') : AG m (sS9 j m') := by
 unfold sS9; split
 · exact .con (.wd (.som0 h))
 · exact .som0 h
theorem AG.me1 (h : AG m m') : AG m (mem1 j m').2 := by
 unfold mem1; dsimp only; split
 · exact .aF (.aF (.con (.som (.tk (.con (.tk h))))) (by show aok 5 2; decide)) (by show aok 2 2; decide)
 · exact .tk (.con (.tk h))
theorem AG.me2 (h : AG m m') : AG m (mem2 m').2 := by unfold mem2; dsimp only; split <;> exact h.tr (.same rfl)
theorem AG.mem {st : Bool} (h : AG m m') : AG m (memS j st m') := by
 unfold memS; dsimp only; split
 · exact AG.tr (m' := sS9 j (mem2 (mem1 j m').2).2) (.som (.me2 (.me1 h))) (AG.ad rfl (by show aok 16 2; decide))
 · exact .aF (.me2 (.me1 h)) (by show aok 15 1; decide)
theorem argsL_len (b : Int) : ∀ (k : Nat) (l : List Int) (m : Mk),(argsL b k l m).1.length = l.length + k
 | 0,_,_ => rfl
 | k + 1,l,m => by rw [argsL,argsL_len b k]; simp; omega
theorem AG.args : ∀ (k : Nat) (l : List Int) (m' : Mk),AG m m' → AG m (argsL j k l m').2
 | 0,_,_,h => h
 | k + 1,l,m',h => by rw [argsL]; exact AG.args k _ _ (.som h)
theorem op_aok {i : Nat} (h : i < 12) : aok (ix [(2 : Int),2,3,4,5,6,7,8,9,10,12,11] i) 2 := by
 have : ∀ i : Nat,i < 12 → aok (ix [(2 : Int),2,3,4,5,6,7,8,9,10,12,11] i) 2 := by decide
 exact this i h
theorem AG.mw {d t : Int} {a : List Int} (h : AG m m') (ha : a.length = 2) : AG m (addS j ⟨18,d,t,a,0⟩ (freshS (freshS m'))) := h.tr (AG.ad rfl (by show aok 18 a.length; rw [ha]; decide))
theorem AG.ins (h : AG m m') : AG m (insS j m') := by
 have hk := tV9 (n := 20) (by omega) m'
 unfold insS; dsimp only
 generalize tVV 20 m' = k at hk
 have h3 : AG m (sS9 j (sS9 j (tSS m'))) := .som (.som (.tk h))
 split
 · split
   · exact .aF (.con (.tk (.tk h3))) (op_aok (by omega))
   · exact .aF (.tk h3) (op_aok (by omega))
 split
 · exact .aF h3 (by show aok _ 2; decide)
 split
 · split
   · exact .aF (.con (.tk (.tk (.con (.tk (.som (.tk h))))))) (by show aok _ 2; decide)
   · exact .aF (.tk (.con (.tk (.som (.tk h))))) (by show aok _ 2; decide)
 split
 · exact .mem (.tk h)
 split
 · refine .aT (AG.args _ _ _ (.tk (.tk h))) ?_
   have h5 := tV9 (n := 5) (by omega) (tSS m')
   have e : aok 17 (argsL j (tVV 5 (tSS m')).toNat [] (tSS (tSS m'))).1.length := by
     rw [argsL_len]
     have : ∀ q : Nat,q ≤ 4 → aok 17 (([] : List Int).length + q) := by decide
     exact this _ (by omega)
   exact e
 split
 · exact .mw h3 rfl
 · exact .con (.wd (.tk h))
theorem AG.is : ∀ (k : Nat) (m' : Mk),AG m m' → AG m (insN b k m')
 | 0,_,h => h
 | k + 1,m',h => by rw [insN]; exact AG.is k _ (.ins h)
theorem AG.sT {t : D.Term} (h : AG m m') (ht : tok t) : AG m (setT j t m') := h.tr fun h => by
 show AB (m'.bs.set _ _)
 exact h.put (fun i hi => .inl hi) (.inr ht)
theorem AG.en {l : List Int} (h : AG m m') : AG m (endS j l m') := by
 unfold endS
 split
 · split
   · exact .sT (.tk (.tk h)) ⟨fun h => by simp at h,fun _ => rfl,fun h => by simp at h⟩
   split
   · exact .sT (.som (.tk h)) ⟨fun h => by simp at h,fun h => by simp at h,fun _ => by simp⟩
   · exact .sT (.tk h) ⟨fun h => by simp at h,fun h => by simp at h,fun _ => by simp⟩
 split
 · exact .sT h ⟨fun h => by simp at h,fun _ => rfl,fun h => by simp at h⟩
 split
 · dsimp only
   split
   · have ho : ∀ i : Nat,i < 3 → aok (ix [(11 : Int),12,13] i) 2 := by decide
     have hr := tV9 (n := 3) (by omega) (freshS (sS9 j (tSS (sS9 j m'))))
     exact .sT (.aT (.som (.tk (.som h))) (ho _ (by omega))) ⟨fun _ => rfl,fun h => by simp at h,fun h => by simp at h⟩
   · exact .sT (.tk (.som h)) ⟨fun _ => rfl,fun h => by simp at h,fun h => by simp at h⟩
 · dsimp only
   exact .sT (.aF (.con (.som h)) (by show aok _ 2; decide)) ⟨fun _ => rfl,fun h => by simp at h,fun h => by simp at h⟩
theorem AG.bl {n : Nat} {to : List (List Int)} {dn : List Bool} : AG m (blkM n to b dn m) := by
 unfold blkM
 exact AG.en (AG.is _ _ (.tk (.same rfl)))
theorem AG.row {n : Nat} {to : List (List Int)} : ∀ (k b : Nat) (dn : List Bool) (m : Mk),AG m (rowS n to k b dn m).2
 | 0,_,_,_ => .rf
 | k + 1,b,dn,m => by
   rw [rowS]; split
   · exact AG.bl.tr (AG.row k _ _ _)
   · exact AG.row k _ _ _
theorem AG.turn {n : Nat} {to : List (List Int)} : ∀ (k : Nat) (dn : List Bool) (m : Mk),AG m (turnS n to k dn m).2
 | 0,_,_ => .rf
 | k + 1,dn,m => by rw [turnS]; exact (AG.row _ _ _ _).tr (AG.turn k _ _)
theorem AG.ap : AG m (addP b m) := fun h => by
 show AB (m.bs.set _ _)
 exact h.put (fun i hi => .inl hi) (.inl rfl)
theorem AG.pn : ∀ (k : Nat) (m : Mk),AG m (phiN b k m)
 | 0,_ => .rf
 | k + 1,m => by rw [phiN]; exact AG.ap.tr (AG.pn k _)
theorem AG.ps : ∀ (k j : Nat) (ph : List Int) (m : Mk),AG m (phiS k j ph m).2
 | 0,_,_,_ => .rf
 | k + 1,j,ph,m => by rw [phiS]; exact AG.tr (m' := tSS m) (.tk .rf) ((AG.pn _ _).tr (AG.ps k _ _ _))
end
section
variable {f : D.Func} {n : Nat} {to : List (List Int)} {nx : Int}
theorem Right3.gr (h : Right3 n to f nx) {q t : Nat} (hq : q < n) : prG (graphF f) q t ↔ (t : Int) ∈ ix to q := by
 have hl := h.len
 have h1 : ix (cleanM (graphF f)) q = keptM (ix (graphF f) q) (graphF f).length := by unfold cleanM; rw [ix_mapG (by rw [graph_len]; omega)]
 have h2 : ix (graphF f) q = keptM (ix f.Blocks q).Term.To f.Blocks.length := by unfold graphF; rw [ix_mapG (l := f.Blocks) (by omega)]
 unfold prG
 rw [h1,h2,graph_len,kept_kept,kept_mem,h.tos q hq]
 refine ⟨fun h => h.1,fun h3 => ⟨h3,?_⟩⟩
 have := h.tr.2.2 q _ h3
 omega
theorem Right3.rb (h : Right3 n to f nx) {w b : Nat} (hr : RB (prG (graphF f)) w b) : RA to n w b ∧ b < n := by
 have hn := h.n1
 have hl := h.len
 induction hr with
 | zero h0 => exact ⟨.zero h0,by omega⟩
 | @step x t h1 h2 h3 ih =>
   have h4 := (h.gr ih.2).1 h2
   have h5 := h.tr.2.2 x _ h4
   have := RA.step ih.1 h4 h5.1 h5.2 (by omega)
   rw [Int.toNat_natCast] at this
   exact ⟨this,by omega⟩
theorem Right3.us (h : Right3 n to f nx) {b a : Nat} {v : Int} {p : Int} (ha : a < n) (hab : a ≠ b) (hr : ¬ RA to n a b) (hv : v ∈ mkB (ix f.Blocks a)) : US f v b p := by
 have hl := h.len
 refine .inr ?_
 rcases mkB_ix.1 hv with ⟨i,h1,h2⟩ | ⟨i,h1,h2⟩
 · exact ⟨a,-1 - (i : Int),⟨by omega,.inl ⟨i,h1,h2,rfl⟩⟩,.inr ⟨hab,fun h3 => hr (h.rb h3).1⟩⟩
 · exact ⟨a,i,⟨by omega,.inr ⟨i,h1,h2,rfl⟩⟩,.inr ⟨hab,fun h3 => hr (h.rb h3).1⟩⟩
theorem us_phi {b i : Nat} {v p : Int} (hb : b < f.Blocks.length) (hi : i < (ix f.Blocks b).Phis.length) (hv : v = (ix (ix f.Blocks b).Phis i).Dst) : US f v b p :=
 .inr ⟨b,-1 - (i : Int),⟨hb,.inl ⟨i,hi,hv,rfl⟩⟩,.inl ⟨rfl,.inr (by omega)⟩⟩
theorem us_ins {b i : Nat} {v p : Int} (hb : b < f.Blocks.length) (hi : i < (ix f.Blocks b).Ins.length) (hv : v ∈ makes3 (ix (ix f.Blocks b).Ins i)) (hp : (i : Int) < p) : US f v b p :=
 .inr ⟨b,i,⟨hb,.inr ⟨i,hi,hv,rfl⟩⟩,.inl ⟨rfl,.inl hp⟩⟩
theorem Right3.vo (h : Right3 n to f nx) {b : Nat} {v p : Int} (hv : Vo n to f.Params f.Blocks b v) : US f v b p := by
 rcases hv with h1 | ⟨a,h1,⟨h2,h3⟩,h4⟩
 · exact .inl h1
 · exact h.us h1 h2 h3 h4
theorem Right3.vs (h : Right3 n to f nx) {b : Nat} {v : Int} (hb : b < n) (hv : Vs n to f.Params f.Blocks b v) : US f v b (ix f.Blocks b).Ins.length := by
 have hl := h.len
 rcases hv with h1 | ⟨a,h1,h3,h4⟩
 · exact .inl h1
 · by_cases e : a = b
   · subst e
     rcases mkB_ix.1 h4 with ⟨i,h5,h6⟩ | ⟨i,h5,h6⟩
     · exact us_phi (by omega) h5 h6
     · exact us_ins (by omega) h5 h6 (by omega)
   · exact h.us h1 e (h3.resolve_left e) h4
end
end Go.Proofs.YtmfkkodnghambaaGreat
namespace Go.JE
variable {P : Program} {D D0 : List Dt} {L M Ls L0 : List Res} {e : Env} {X : Cx} {n : Fs} {w0 : World} {Q : Exit → Act → World → Prop}
theorem OpOk.convBS {S T E : TypeId} {x : Operand} {B : Nat} {v : Value} {l : List Int} {F : PH} {H : Heap} (hT : P.underlying S = some (.slice E)) (hE : P.underlying E = some (.int .u8)) (hD : P.underlying T = some .string) (hg : Gl (rI .u8) E F H B v l) (hx : ev e x = some v) : OpOk P e (.convert S T x) H (.string (strOfNums l)) := by
 intro ρ o w ho hev hw
 have h1 : (convert S T v).run P w = .ok (.string (strOfNums l)) w := by
   have hg0 := hg
   obtain ⟨xs,h1,h2,h3⟩ := hg
   rcases h1.2 with ⟨rfl,h0⟩ | ⟨g,cap,cur,rfl,_⟩
   · have : l = [] := List.eq_nil_of_length_eq_zero h0
     subst this
     exact run_convert_bytes_nil w S E hT hE 0 0 T hD
   · refine run_convert_bytes_arg w S E hT hE g 0 l.length cap l rfl (fun i hi => ?_) T hD
     obtain ⟨f,hf,hc0⟩ := hg0.cell hi (j := 0) (by decide)
     rw [cell_hc,hw]
     have e1 : f 0 = .int .u8 l[i] := hf.1
     have e2 : l.getD i 0 = l[i] := by simp [List.getD,hi]
     rw [e2,← e1,← hc0]
     show hc H g (0 + i) = hc H g (0 + (i * 1 + 0))
     rw [Nat.mul_one,Nat.add_zero]
 simp only [execOp,ho,hev _ _ hx]
 rw [run_bind_ok h1]; rfl
theorem jcbs {S T E : TypeId} {x : Operand} {B : Nat} {v : Value} {l : List Int} (hT : P.underlying S = some (.slice E)) (hE : P.underlying E = some (.int .u8)) (hD : P.underlying T = some .string) (hk : Tk L (gl B (rI .u8) E v l) M) (hx : ev e x = some v) : OH P D L e (.convert S T x) (.string (strOfNums l)) := fun F H _ _ h => OpOk.convBS hT hE hD (hk.ok h).1.1 hx
theorem OpOk.eqlS {T T' : TypeId} {x y : Operand} {a b : ByteArray} {H : Heap} (hT : P.underlying T = some .string) (hx : ev e x = some (.string a)) (hy : ev e y = some (.string b)) : OpOk P e (.binOp .eql T x y T') H (.bool (decide (a = b))) := by
 intro ρ o w ho hev _
 simp only [execOp,ho,hev _ _ hx,hev _ _ hy,eqGuard,binOp]
 have h1 : (Op.stringOp .eql a b).run P w = .ok (.bool (decide (a = b))) w := by
   simp [Op.stringOp,Sem.run_pure]
   rw [ByteArray.toList_eq,ByteArray.toList_eq]
   by_cases h : a = b
   · subst h; simp
   · rw [decide_eq_false h]
     have : ¬ a.data.toList = b.data.toList := fun h2 => h (by cases a; cases b; simp at h2; simpa using h2)
     simpa using this
 simp [h1]
theorem jeqlS {T T' : TypeId} {x y : Operand} {a b : ByteArray} (hT : P.underlying T = some .string) (hx : ev e x = some (.string a)) (hy : ev e y = some (.string b)) : OH P D L e (.binOp .eql T x y T') (.bool (decide (a = b))) := fun _ _ _ _ _ => OpOk.eqlS hT hx hy
theorem OpOk.addS {T T' : TypeId} {x y : Operand} {a b : ByteArray} {H : Heap} (hx : ev e x = some (.string a)) (hy : ev e y = some (.string b)) (hl : a.size + b.size ≤ 9223372036854775807) : OpOk P e (.binOp .add T x y T') H (.string (a ++ b)) := by
 intro ρ o w ho hev _
 simp only [execOp,ho,hev _ _ hx,hev _ _ hy,eqGuard,binOp]
 have h1 : (Op.stringOp .add a b).run P w = .ok (.string (a ++ b)) w := by
   simp [Op.stringOp,Sem.run_pure]; omega
 simp [h1]
theorem jaddS {T T' : TypeId} {x y : Operand} {a b : ByteArray} (hx : ev e x = some (.string a)) (hy : ev e y = some (.string b)) (hl : a.size + b.size ≤ 9223372036854775807) : OH P D L e (.binOp .add T x y T') (.string (a ++ b)) := fun _ _ _ _ _ => OpOk.addS hx hy hl
end Go.JE
namespace Go.Proofs.YtmfkkodnghambaaGreat
open Go.JE
abbrev U204 := @Tryz.underlying204
abbrev U5 := @Tryz.underlying5
abbrev U9 := @Tryz.underlying9
theorem I5 : (Tryz.prog.info? 5).map (fun i => (i.zero,i.size,i.bytes)) = some (some (.int .u8 0),1,1) := by kernel_rfl
def dgS (u : Int) (s : ByteArray) : ByteArray := strOfNums [IntKind.u8.wrap (IntKind.u64.wrap (48 + Int.tmod u 10))] ++ s
def dgF : Nat → Int → ByteArray → ByteArray
 | 0,_,s => s
 | k + 1,u,s => if 0 < u ∨ s = (⟨#[]⟩ : ByteArray) then dgF k (IntKind.u64.wrap (Int.tdiv u 10)) (dgS u s) else s
def dgM (n : Int) : ByteArray := (if n < 0 then (⟨#[45]⟩ : ByteArray) ++ dgF 25 (if n < 0 then IntKind.u64.wrap (0 - IntKind.u64.wrap n) else IntKind.u64.wrap n) (⟨#[]⟩ : ByteArray) else dgF 25 (if n < 0 then IntKind.u64.wrap (0 - IntKind.u64.wrap n) else IntKind.u64.wrap n) (⟨#[]⟩ : ByteArray)) ++ (⟨#[32]⟩ : ByteArray)
theorem bsz1 (x : UInt8) : (⟨#[x]⟩ : ByteArray).size = 1 := rfl
theorem dgS_sz (u : Int) (s : ByteArray) : (dgS u s).size = 1 + s.size := by unfold dgS; rw [ByteArray.size_append,strOfNums_size]; rfl
theorem dgS_ne (u : Int) (s : ByteArray) : dgS u s ≠ (⟨#[]⟩ : ByteArray) := fun h => by
 have := congrArg ByteArray.size h
 rw [dgS_sz] at this
 have e : (⟨#[]⟩ : ByteArray).size = 0 := rfl
 omega
theorem dg_pos {k : Nat} {u : Int} {s : ByteArray} (hu : 0 ≤ u ∧ u < 10 ^ k) (hs : s = (⟨#[]⟩ : ByteArray) → 1 ≤ k) (hc : 0 < u ∨ s = (⟨#[]⟩ : ByteArray)) : 1 ≤ k := by
 rcases hc with h | h
 · cases k with
   | zero => rw [Int.pow_zero] at hu; omega
   | succ k => omega
 · exact hs h
theorem dg_nx {k : Nat} {u : Int} {s : ByteArray} (hu : 0 ≤ u ∧ u < 10 ^ k) (h64 : u < 18446744073709551616) (hs : s = (⟨#[]⟩ : ByteArray) → 1 ≤ k) (hc : 0 < u ∨ s = (⟨#[]⟩ : ByteArray)) : 0 ≤ IntKind.u64.wrap (Int.tdiv u 10) ∧ IntKind.u64.wrap (Int.tdiv u 10) < 10 ^ (k - 1) ∧ IntKind.u64.wrap (Int.tdiv u 10) < 18446744073709551616 := by
 have h1 := dg_pos hu hs hc
 obtain ⟨j,rfl⟩ : ∃ j,k = j + 1 := ⟨k - 1,by omega⟩
 have e : Int.tdiv u 10 = u / 10 := Int.tdiv_eq_ediv_of_nonneg hu.1
 have h2 : u < 10 * 10 ^ j := by have := hu.2; rw [Int.pow_succ] at this; omega
 rw [e,IntKind.wrap_u64,Nat.add_sub_cancel]
 generalize (10 : Int) ^ j = p at *
 omega
theorem dg_0 (m : Int) : 0 ≤ IntKind.u64.wrap m ∧ IntKind.u64.wrap m < 10 ^ 25 := by rw [IntKind.wrap_u64,show (10 : Int) ^ 25 = 10000000000000000000000000 from rfl]; omega
theorem dg_1 (m : Int) : IntKind.u64.wrap m < 18446744073709551616 := by rw [IntKind.wrap_u64]; omega
theorem dg_go {k : Nat} {u : Int} {s : ByteArray} {R : ByteArray} (h : R = dgF k u s) (hk : 1 ≤ k) (hc : 0 < u ∨ s = (⟨#[]⟩ : ByteArray)) : R = dgF (k - 1) (IntKind.u64.wrap (Int.tdiv u 10)) (dgS u s) := by
 obtain ⟨j,rfl⟩ : ∃ j,k = j + 1 := ⟨k - 1,by omega⟩
 rw [h,dgF,if_pos hc]; rfl
theorem dg_end {k : Nat} {u : Int} {s : ByteArray} {R : ByteArray} (h : R = dgF k u s) (hc : ¬ (0 < u ∨ s = (⟨#[]⟩ : ByteArray))) : R = s := by
 cases k with
 | zero => exact h
 | succ k => rw [h,dgF,if_neg hc]
theorem dg_ct (n : Int) (ww0 : IntKind.i64.wrap n = n) : Tv Tryz.prog 97 #[.int .i64 n] [] [] (.string (dgM n)) := by
 refine jenter (args := [.int .i64 n]) Tryz.func97 rfl rfl rfl fun w0 X => ?_
 refine jq (jr (ja Z (jn (jx (jq (jr (ja Z (jn (jx (jq (jr ?_)))))))))))
 refine jm Z (js (jco U3 U203 Z Z) (ja Z (jn (jx (jq (jq (jr (jm Z (js (jlss Z Z) (jn (jx ?_)))))))))))
 refine jif Z (fun hc1 => ?_) (fun hc1 => ?_)
 refine jr (jm Z (js (jneg Z) (ja Z (jn (jx (jq (jb ?_)))))))
 refine jlp (u3 fun (k : Nat) (u : Int) (s : ByteArray) => ⟨dgF 25 (IntKind.u64.wrap (0 - (IntKind.u64.wrap n))) (⟨#[]⟩ : ByteArray) = dgF k u s ∧ (0 ≤ u ∧ u < 10 ^ k) ∧ u < 18446744073709551616 ∧ (s = (⟨#[]⟩ : ByteArray) → 1 ≤ k) ∧ IntKind.u64.wrap u = u ∧ s.size + k ≤ 25,[],[],[(0,.int .i64 n),(2,.string ((⟨#[]⟩ : ByteArray))),(3,.string s),(4,.int .u64 u)],k⟩) (25,IntKind.u64.wrap (0 - (IntKind.u64.wrap n)),(⟨#[]⟩ : ByteArray)) ⟨rfl,by dsimp only; exact dg_0 _,by dsimp only; exact dg_1 _,(fun _ => (show 1 ≤ 25 by decide)),by dsimp only; exact JE.wrap_wrap _ _,(show (⟨#[]⟩ : ByteArray).size + 25 ≤ 25 by decide)⟩ dn kn ⟨Z,Z,Z,Z,trivial⟩ ?_
 rintro ⟨k,u,s⟩; dsimp only [u3]; rintro ⟨hd,hu,h64,hs,hw,hz⟩
 refine jq (jq (jr (jm Z (js (jgtr Z Z) (jm Z (jg Z Z (.f _) (fun hg => jmv Z) (jg Z Z (.f _) (fun hg => jeqlS U9 (evg Z hg) Z) (js (jor Z Z) (jn (jx ?_))))))))))
 refine jif Z (fun hc2 => ?_) (fun hc2 => ?_)
 have hcc := hc2
 have h1k := dg_pos hu hs hcc
 refine jsk (jx (jb (jq (jr (jm Z (js (jrem Z Z (by decide)) (js (jaddw Z Z) (js (jco U203 U5 Z Z) (jlit (r := (rI .u8)) (l := [IntKind.u8.wrap (IntKind.u64.wrap (48 + (Int.tmod u 10)))]) U204 I5 (by decide) Z Z Z (lV Z Z (wI (wp (JE.wrap_wrap _ _))) ln) fun g21 => js (jcbs U204 U5 U9 k0 Z) (jm Z ?_))))))))))
 refine js (jaddS Z Z (by (try simp only [ByteArray.size_append,strOfNums_size,bsz1,List.length_cons,List.length_nil]); omega)) (ja Z (jn (jx (jr (jm Z (js (jquo Z Z (by decide)) (ja Z (jn (jbn ?_)))))))))
 exact jag (k - 1,IntKind.u64.wrap (Int.tdiv u 10),(strOfNums ([IntKind.u8.wrap (IntKind.u64.wrap (48 + (Int.tmod u 10)))])) ++ s) ⟨by dsimp only; exact dg_go hd (dg_pos hu hs hcc) hcc,by dsimp only; exact ⟨(dg_nx hu h64 hs hcc).1,(dg_nx hu h64 hs hcc).2.1⟩,by dsimp only; exact (dg_nx hu h64 hs hcc).2.2,by dsimp only; exact fun h => absurd h (dgS_ne _ _),by dsimp only; exact JE.wrap_wrap _ _,by dsimp only; have h9 := h1k; have h8 := dgS_sz u s; unfold dgS at h8; omega⟩ dn kn ⟨Z,Z,Z,Z,trivial⟩
 have hcn := hc2
 refine jex (jtx (jtx (jbh (jx (jq (jq (jr (jm Z (js (jlss Z Z) (jn (jx ?_)))))))))))
 refine jif Z (fun hc3 => ?_) (fun hc3 => ?_)
 refine jr (jm Z (js (jaddS Z Z (by (try simp only [ByteArray.size_append,strOfNums_size,bsz1,List.length_cons,List.length_nil]); omega)) (ja Z (jn (jx (jq (jr (jm Z (js (jaddS Z Z (by (try simp only [ByteArray.size_append,strOfNums_size,bsz1,List.length_cons,List.length_nil]); omega)) (ja Z (jn ?_)))))))))))
 refine jx (jrt ?_)
 exact jrS Z Z (by have h7 := dg_end hd (fun h => h.elim hcn.1 hcn.2); unfold dgM; first | (exfalso; omega) | (simp only [if_pos (show n < 0 by omega),h7]) | (simp only [if_neg (show ¬ n < 0 by omega),h7]))
 refine jsk (jx (jq (jr (jm Z (js (jaddS Z Z (by (try simp only [ByteArray.size_append,strOfNums_size,bsz1,List.length_cons,List.length_nil]); omega)) (ja Z (jn (jx (jrt ?_)))))))))
 exact jrS Z Z (by have h7 := dg_end hd (fun h => h.elim hcn.1 hcn.2); unfold dgM; first | (exfalso; omega) | (simp only [if_pos (show n < 0 by omega),h7]) | (simp only [if_neg (show ¬ n < 0 by omega),h7]))
 refine jsk (jx (jq (jb ?_)))
 refine jlp (u3 fun (k : Nat) (u : Int) (s : ByteArray) => ⟨dgF 25 (IntKind.u64.wrap n) (⟨#[]⟩ : ByteArray) = dgF k u s ∧ (0 ≤ u ∧ u < 10 ^ k) ∧ u < 18446744073709551616 ∧ (s = (⟨#[]⟩ : ByteArray) → 1 ≤ k) ∧ IntKind.u64.wrap u = u ∧ s.size + k ≤ 25,[],[],[(0,.int .i64 n),(2,.string ((⟨#[]⟩ : ByteArray))),(3,.string s),(4,.int .u64 u)],k⟩) (25,IntKind.u64.wrap n,(⟨#[]⟩ : ByteArray)) ⟨rfl,by dsimp only; exact dg_0 _,by dsimp only; exact dg_1 _,(fun _ => (show 1 ≤ 25 by decide)),by dsimp only; exact JE.wrap_wrap _ _,(show (⟨#[]⟩ : ByteArray).size + 25 ≤ 25 by decide)⟩ dn kn ⟨Z,Z,Z,Z,trivial⟩ ?_
 rintro ⟨k,u,s⟩; dsimp only [u3]; rintro ⟨hd,hu,h64,hs,hw,hz⟩
 refine jq (jq (jr (jm Z (js (jgtr Z Z) (jm Z (jg Z Z (.f _) (fun hg => jmv Z) (jg Z Z (.f _) (fun hg => jeqlS U9 (evg Z hg) Z) (js (jor Z Z) (jn (jx ?_))))))))))
 refine jif Z (fun hc4 => ?_) (fun hc4 => ?_)
 have hcc := hc4
 have h1k := dg_pos hu hs hcc
 refine jsk (jx (jb (jq (jr (jm Z (js (jrem Z Z (by decide)) (js (jaddw Z Z) (js (jco U203 U5 Z Z) (jlit (r := (rI .u8)) (l := [IntKind.u8.wrap (IntKind.u64.wrap (48 + (Int.tmod u 10)))]) U204 I5 (by decide) Z Z Z (lV Z Z (wI (wp (JE.wrap_wrap _ _))) ln) fun g21_1 => js (jcbs U204 U5 U9 k0 Z) (jm Z ?_))))))))))
 refine js (jaddS Z Z (by (try simp only [ByteArray.size_append,strOfNums_size,bsz1,List.length_cons,List.length_nil]); omega)) (ja Z (jn (jx (jr (jm Z (js (jquo Z Z (by decide)) (ja Z (jn (jbn ?_)))))))))
 exact jag (k - 1,IntKind.u64.wrap (Int.tdiv u 10),(strOfNums ([IntKind.u8.wrap (IntKind.u64.wrap (48 + (Int.tmod u 10)))])) ++ s) ⟨by dsimp only; exact dg_go hd (dg_pos hu hs hcc) hcc,by dsimp only; exact ⟨(dg_nx hu h64 hs hcc).1,(dg_nx hu h64 hs hcc).2.1⟩,by dsimp only; exact (dg_nx hu h64 hs hcc).2.2,by dsimp only; exact fun h => absurd h (dgS_ne _ _),by dsimp only; exact JE.wrap_wrap _ _,by dsimp only; have h9 := h1k; have h8 := dgS_sz u s; unfold dgS at h8; omega⟩ dn kn ⟨Z,Z,Z,Z,trivial⟩
 have hcn := hc4
 refine jex (jtx (jtx (jbh (jx (jq (jq (jr (jm Z (js (jlss Z Z) (jn (jx ?_)))))))))))
 refine jif Z (fun hc5 => ?_) (fun hc5 => ?_)
 refine jr (jm Z (js (jaddS Z Z (by (try simp only [ByteArray.size_append,strOfNums_size,bsz1,List.length_cons,List.length_nil]); omega)) (ja Z (jn (jx (jq (jr (jm Z (js (jaddS Z Z (by (try simp only [ByteArray.size_append,strOfNums_size,bsz1,List.length_cons,List.length_nil]); omega)) (ja Z (jn ?_)))))))))))
 refine jx (jrt ?_)
 exact jrS Z Z (by have h7 := dg_end hd (fun h => h.elim hcn.1 hcn.2); unfold dgM; first | (exfalso; omega) | (simp only [if_pos (show n < 0 by omega),h7]) | (simp only [if_neg (show ¬ n < 0 by omega),h7]))
 refine jsk (jx (jq (jr (jm Z (js (jaddS Z Z (by (try simp only [ByteArray.size_append,strOfNums_size,bsz1,List.length_cons,List.length_nil]); omega)) (ja Z (jn (jx (jrt ?_)))))))))
 exact jrS Z Z (by have h7 := dg_end hd (fun h => h.elim hcn.1 hcn.2); unfold dgM; first | (exfalso; omega) | (simp only [if_pos (show n < 0 by omega),h7]) | (simp only [if_neg (show ¬ n < 0 by omega),h7]))
theorem E97 : Ent Tryz.prog 97 := ⟨_,Tryz.func97,by kernel_rfl,by kernel_rfl⟩
theorem dgF_sz : ∀ (k : Nat) (u : Int) (s : ByteArray),(dgF k u s).size ≤ k + s.size
 | 0,_,s => by show s.size ≤ 0 + s.size; omega
 | k + 1,u,s => by
   rw [dgF]; split
   · have := dgF_sz k (IntKind.u64.wrap (Int.tdiv u 10)) (dgS u s)
     rw [dgS_sz] at this; omega
   · omega
theorem dgM_sz (n : Int) : (dgM n).size ≤ 27 := by
 have h : ∀ u,(dgF 25 u (⟨#[]⟩ : ByteArray)).size ≤ 25 + (⟨#[]⟩ : ByteArray).size := fun u => dgF_sz 25 u _
 have e : (⟨#[]⟩ : ByteArray).size = 0 := rfl
 unfold dgM
 rw [ByteArray.size_append,bsz1]
 have h2 := h (IntKind.u64.wrap (0 - IntKind.u64.wrap n))
 have h3 := h (IntKind.u64.wrap n)
 split
 · rw [ByteArray.size_append,bsz1]; omega
 · omega
def rowT (l : List Int) : ByteArray := l.foldl (fun s x => s ++ dgM x) (dgM l.length)
theorem rowT_nx {l : List Int} {k : Nat} (h : k < l.length) (s0 : ByteArray) : (l.take (k + 1)).foldl (fun s x => s ++ dgM x) s0 = (l.take k).foldl (fun s x => s ++ dgM x) s0 ++ dgM (ix l k) := by rw [take_ix h,List.foldl_append]; rfl
theorem rowT_sz (l : List Int) : (rowT l).size ≤ 27 * (l.length + 1) := by
 have h : ∀ (l : List Int) (s : ByteArray),(l.foldl (fun s x => s ++ dgM x) s).size ≤ s.size + 27 * l.length := by
   intro l
   induction l with
   | nil => intro s; exact Nat.le_refl _
   | cons x l ih =>
     intro s
     have h1 := ih (s ++ dgM x)
     have h2 := dgM_sz x
     rw [ByteArray.size_append] at h1
     rw [List.foldl_cons,List.length_cons]; omega
 have h1 := h l (dgM l.length)
 have h2 := dgM_sz l.length
 unfold rowT; omega
attribute [local irreducible] dgM rowT
theorem row7_ct {a0 : Value} {l : List Int} : Tv Tryz.prog 156 #[a0] [dv (rL (rI .i64)) a0 l] [] (.string (rowT l)) := by
 refine jenter (args := [a0]) Tryz.func156 rfl rfl rfl fun w0 X => ?_
 refine jq (jr (ja Z (jn (jx (jq (jr (jm Z (jdq d0 fun q1 w1 => js (jln U22 d0 Z) (jcv E97 Z Z (dg_ct (↑(List.length l)) (IntWalk.i64_in _ (by omega))) dn kn (ja Z ?_))))))))))
 refine jn (jx (jq (jq (jr (ja Z (jn (jx (jb ?_))))))))
 refine jlp (u2 fun (k : Nat) (s : ByteArray) => ⟨k ≤ l.length ∧ s = (l.take k).foldl (fun s x => s ++ dgM x) (dgM l.length) ∧ s.size ≤ 27 * (k + 1),[dv (rL (rI .i64)) a0 l],[],[(0,a0),(2,.string ((⟨#[]⟩ : ByteArray))),(3,.string s),(4,.int .i64 (↑k))],l.length - k⟩) (0,dgM l.length) ⟨by dsimp only; omega,rfl,by have h9 := dgM_sz l.length; dsimp only; omega⟩ (dc d0 dn) kn ⟨Z,Z,Z,eqI (by omega),trivial⟩ ?_
 rintro ⟨k,s⟩; dsimp only [u2]; rintro ⟨hk,hs,hz⟩
 refine jq (jq (jr (jm Z (jm Z (js (jln U22 d0 Z) (js (jlss Z Z) (jn (jx ?_))))))))
 refine jif Z (fun hc1 => ?_) (fun hc1 => ?_)
 refine jsk (jx (jq (jb (jr (jm Z (jm Z (jm Z (js (jix U22 Z3 d0 Z Z Z (by omega)) (js (jlI (dix d0 k (by omega)) O3 Z) (jwr (wad (dix d0 k (by omega))) fun w2 => jcv E97 Z Z (dg_ct (ix l k) w2) dn kn ?_))))))))))
 refine js (jaddS Z Z (by have h9 := dgM_sz (ix l k); omega)) (ja Z (jn (jbn (jx (jr (jm Z (js (jadd Z Z (by omega)) (ja Z (jn ?_)))))))))
 exact jag (k + 1,s ++ (dgM (ix l k))) ⟨by dsimp only; omega,by dsimp only; rw [rowT_nx (by omega),hs],by have h9 := dgM_sz (ix l k); dsimp only; rw [ByteArray.size_append]; omega⟩ (dc d0 dn) kn ⟨Z,Z,Z,eqI (by omega),trivial⟩
 refine jex (jtx (jtx (jbh (jx (jq (jr (jm Z (ja Z (jn (jx (jrt ?_)))))))))))
 exact jrS Z Z (by unfold rowT; rw [hs,List.take_of_length_le (by omega)])
end Go.Proofs.YtmfkkodnghambaaGreat
namespace Go.Proofs.YtmfkkodnghambaaGreat
open Go.JE
theorem E156 : Ent Tryz.prog 156 := ⟨_,Tryz.func156,by kernel_rfl,by kernel_rfl⟩
def insT (i : D.Mach) : ByteArray := dgM i.Op ++ dgM i.D ++ dgM i.E ++ dgM i.A ++ dgM i.B ++ dgM i.C ++ dgM i.Imm ++ rowT i.Args
def endT (e : D.End) : ByteArray := dgM e.Op ++ dgM e.A ++ dgM e.B ++ dgM e.Imm ++ rowT e.To
theorem insT_sz (i : D.Mach) : (insT i).size ≤ 27 * (i.Args.length + 8) := by
 have := dgM_sz i.Op; have := dgM_sz i.D; have := dgM_sz i.E; have := dgM_sz i.A; have := dgM_sz i.B; have := dgM_sz i.C; have := dgM_sz i.Imm; have := rowT_sz i.Args
 unfold insT; simp only [ByteArray.size_append]; omega
theorem endT_sz (e : D.End) : (endT e).size ≤ 27 * (e.To.length + 5) := by
 have := dgM_sz e.Op; have := dgM_sz e.A; have := dgM_sz e.B; have := dgM_sz e.Imm; have := rowT_sz e.To
 unfold endT; simp only [ByteArray.size_append]; omega
attribute [local irreducible] dgM rowT
theorem insT_ct {a0 : Value} {i : D.Mach} : Tv Tryz.prog 98 #[vMach i a0] [da rMach (vMach i a0) i] [] (.string (insT i)) := by
 refine jenter (args := [vMach i a0]) Tryz.func98 rfl rfl rfl fun w0 X => ?_
 have h1 := dgM_sz i.Op
 have h2 := dgM_sz i.D
 have h3 := dgM_sz i.E
 have h4 := dgM_sz i.A
 have h5 := dgM_sz i.B
 have h6 := dgM_sz i.C
 have h7 := dgM_sz i.Imm
 have h8 := rowT_sz i.Args
 refine jq (jr (jbox Z Z fun g1 => ja Z (jn (jx (jq (jany false (.a 0 (.a 1 (.a 3 (.a 4 (.a 7 (.a 8 (.a 11 (.a 12 (.a 15 (.a 16 (.a 19 (.a 20 (.a 23 (.a 24 (.a 25 (.a 28 (.a 29 (.o 2 (.o 5 (.a 6 (.o 9 (.a 10 (.o 13 (.a 14 (.o 17 (.a 18 (.o 21 (.a 22 (.o 26 (.a 27 (.o 30 (.a 31 (.a 32 .e))))))))))))))))))))))))))))))))) Mixed (by kernel_rfl) (kc k0 kn) fun F1 => jy Z (jf F24_0 Z) (jy Z (jl k0 O3 Z Z) (jy Z (jf F24_1 Z) (jy Z (jl k0 O3 Z Z) ?_)))))))))
 refine jy Z (jf F24_2 Z) (jy Z (jl k0 O3 Z Z) (jy Z (jf F24_3 Z) (jy Z (jl k0 O3 Z Z) (jy Z (jf F24_4 Z) (jy Z (jl k0 O3 Z Z) (jy Z (jf F24_5 Z) (jy Z (jl k0 O3 Z Z) (jy Z (jf F24_6 Z) (jy Z (jl k0 O21 Z Z) (awr (rMach.W_Imm d0) fun w2 => jy Z (jco U21 U3 Z (up_i32_i64 w2)) ?_))))))))))
 refine jy Z (jf F24_7 Z) (jy Z (jl k0 O22 Z Z) (jyo Z (jwr (rMach.W_Op d1) fun w4 => jcv E97 Z Z (dg_ct i.Op w4) dn kn (jyn d0 (kc k0 kn) (jyo Z (jwr (rMach.W_D d2) fun w6 => jcv E97 Z Z (dg_ct i.D w6) dn kn (jyn d0 (kc k0 kn) (jy Z (jaddS Z Z (by (try simp only [ByteArray.size_append]); omega)) (jyo Z ?_)))))))))
 refine jwr (rMach.W_E d3) fun w8 => jcv E97 Z Z (dg_ct i.E w8) dn kn (jyn d0 (kc k0 kn) (jy Z (jaddS Z Z (by (try simp only [ByteArray.size_append]); omega)) (jyo Z (jwr (rMach.W_A d4) fun w10 => jcv E97 Z Z (dg_ct i.A w10) dn kn (jyn d0 (kc k0 kn) (jy Z (jaddS Z Z (by (try simp only [ByteArray.size_append]); omega)) (jyo Z (jwr (rMach.W_B d5) fun w12 => jcv E97 Z Z (dg_ct i.B w12) dn kn ?_))))))))
 refine jyn d0 (kc k0 kn) (jy Z (jaddS Z Z (by (try simp only [ByteArray.size_append]); omega)) (jyo Z (jwr (rMach.W_C d6) fun w14 => jcv E97 Z Z (dg_ct i.C w14) dn kn (jyn d0 (kc k0 kn) (jy Z (jaddS Z Z (by (try simp only [ByteArray.size_append]); omega)) (jyo Z (jcv E97 Z Z (dg_ct i.Imm (up_i32_i64 w2)) dn kn (jyn d0 (kc k0 kn) (jy Z (jaddS Z Z (by (try simp only [ByteArray.size_append]); omega)) (jyo Z ?_))))))))))
 refine jdq (rMach.c_Args d8) fun q17 w17 => jcv E156 Z Z row7_ct (dc (rMach.c_Args d8) dn) kn (jyn d0 (kc k0 kn) (jy Z (jaddS Z Z (by (try simp only [ByteArray.size_append]); omega)) (jy Z (jas Z) (jyd (jx (jrt ?_))))))
 exact jrS Z Z (by rfl)
theorem endT_ct {a0 : Value} {e : D.End} : Tv Tryz.prog 99 #[vEnd e a0] [da rEnd (vEnd e a0) e] [] (.string (endT e)) := by
 refine jenter (args := [vEnd e a0]) Tryz.func99 rfl rfl rfl fun w0 X => ?_
 have h1 := dgM_sz e.Op
 have h2 := dgM_sz e.A
 have h3 := dgM_sz e.B
 have h4 := dgM_sz e.Imm
 have h8 := rowT_sz e.To
 refine jq (jr (jbox Z Z fun g1 => ja Z (jn (jx (jq (jany false (.a 0 (.a 1 (.a 3 (.a 4 (.a 7 (.a 8 (.a 11 (.a 12 (.a 13 (.a 16 (.a 17 (.o 2 (.o 5 (.a 6 (.o 9 (.a 10 (.o 14 (.a 15 (.o 18 (.a 19 (.a 20 .e))))))))))))))))))))) Mixed (by kernel_rfl) (kc k0 kn) fun F1 => jy Z (jf F88_0 Z) (jy Z (jl k0 O3 Z Z) (jy Z (jf F88_1 Z) (jy Z (jl k0 O3 Z Z) ?_)))))))))
 refine jy Z (jf F88_2 Z) (jy Z (jl k0 O3 Z Z) (jy Z (jf F88_4 Z) (jy Z (jl k0 O21 Z Z) (awr (rEnd.W_Imm d0) fun w2 => jy Z (jco U21 U3 Z (up_i32_i64 w2)) (jy Z (jf F88_3 Z) (jy Z (jl k0 O22 Z Z) (jyo Z (jwr (rEnd.W_Op d1) fun w4 => jcv E97 Z Z (dg_ct e.Op w4) dn kn (jyn d0 (kc k0 kn) ?_)))))))))
 refine jyo Z (jwr (rEnd.W_A d2) fun w6 => jcv E97 Z Z (dg_ct e.A w6) dn kn (jyn d0 (kc k0 kn) (jy Z (jaddS Z Z (by (try simp only [ByteArray.size_append]); omega)) (jyo Z (jwr (rEnd.W_B d3) fun w8 => jcv E97 Z Z (dg_ct e.B w8) dn kn (jyn d0 (kc k0 kn) (jy Z (jaddS Z Z (by (try simp only [ByteArray.size_append]); omega)) (jyo Z (jcv E97 Z Z (dg_ct e.Imm (up_i32_i64 w2)) dn kn ?_)))))))))
 refine jyn d0 (kc k0 kn) (jy Z (jaddS Z Z (by (try simp only [ByteArray.size_append]); omega)) (jyo Z (jdq (rEnd.c_To d5) fun q11 w11 => jcv E156 Z Z row7_ct (dc (rEnd.c_To d5) dn) kn (jyn d0 (kc k0 kn) (jy Z (jaddS Z Z (by (try simp only [ByteArray.size_append]); omega)) (jy Z (jas Z) (jyd (jx (jrt ?_)))))))))
 exact jrS Z Z (by rfl)
end Go.Proofs.YtmfkkodnghambaaGreat
namespace Go.Proofs.YtmfkkodnghambaaGreat
open Go.JE
theorem E98 : Ent Tryz.prog 98 := ⟨_,Tryz.func98,by kernel_rfl,by kernel_rfl⟩
theorem E99 : Ent Tryz.prog 99 := ⟨_,Tryz.func99,by kernel_rfl,by kernel_rfl⟩
def zT (s : ByteArray) (z : D.In) : ByteArray := s ++ dgM z.From ++ dgM z.Val
def phT7 (s : ByteArray) (p : D.Phi) : ByteArray := p.In.foldl zT (s ++ dgM p.Dst ++ dgM p.In.length)
def iT7 (s : ByteArray) (i : D.Mach) : ByteArray := s ++ insT i
def blT7 (s : ByteArray) (x : D.MBlock) : ByteArray := x.Ins.foldl iT7 (x.Phis.foldl phT7 (s ++ dgM x.Phis.length) ++ dgM x.Ins.length) ++ endT x.End
def funT7 (m : D.MFunc) : ByteArray := m.Blocks.foldl blT7 (dgM m.Params ++ dgM m.Blocks.length)
theorem fold_nx {α : Type} [Inhabited α] {f : ByteArray → α → ByteArray} {l : List α} {k : Nat} (h : k < l.length) (s0 : ByteArray) : (l.take (k + 1)).foldl f s0 = f ((l.take k).foldl f s0) (ix l k) := by rw [take_ix h,List.foldl_append]; rfl
theorem fold_all {α : Type} {f : ByteArray → α → ByteArray} {l : List α} {k : Nat} (h : l.length ≤ k) (s0 : ByteArray) : (l.take k).foldl f s0 = l.foldl f s0 := by rw [List.take_of_length_le h]
attribute [local irreducible] dgM rowT insT endT
set_option maxRecDepth 8000 in
set_option maxHeartbeats 800000 in
theorem print7_ct {a0 : Value} {m : D.MFunc} (hS : SmallF 8000 m) (hB : m.Blocks.length ≤ 1000) : Tv Tryz.prog 45 #[vMFunc m a0] [da rMFunc (vMFunc m a0) m] [] (.string (funT7 m)) := by
 refine jenter (args := [vMFunc m a0]) Tryz.func45 rfl rfl rfl fun w0 X => ?_
 have hd0 := dgM_sz m.Params
 have hd1 := dgM_sz m.Blocks.length
 refine jq (jr (jbox Z Z fun g1 => ja Z (jn (jx (jq (jany false (.a 0 (.a 1 (.a 3 (.a 4 (.a 5 (.o 2 (.o 6 (.a 7 (.a 8 .e))))))))) Mixed (by kernel_rfl) (kc k0 kn) fun F1 => jy Z (jf F28_0 Z) (jy Z (jl k0 O3 Z Z) (jy Z (jf F28_1 Z) (jy Z (jl k0 O26 Z Z) ?_)))))))))
 refine adq (rMFunc.cB d0) fun q2 w2 => jy Z (jln U26 (rMFunc.cB d0) Z) (jyo Z (jwr (rMFunc.W_Params d1) fun w4 => jcv E97 Z Z (dg_ct m.Params w4) dn kn (jyn d0 (kc k0 kn) (jyo Z (jcv E97 Z Z (dg_ct (↑(List.length m.Blocks)) (IntWalk.i64_in _ (by omega))) dn kn (jyn d0 (kc k0 kn) (jy Z (jaddS Z Z (by (try simp only [ByteArray.size_append]); omega)) (jy Z (jas Z) (jyd ?_)))))))))
 refine jx (jq (jq (jr (ja Z (jn (jx (jb ?_)))))))
 refine jlp (u2 fun (b : Nat) (s : ByteArray) => ⟨b ≤ m.Blocks.length ∧ s = (m.Blocks.take b).foldl blT7 (dgM m.Params ++ dgM m.Blocks.length) ∧ s.size ≤ 54 + b * 1000000000000000,[da rMFunc (vMFunc m a0) m],[bx g1 28 [.int .i64 m.Params,a0]],[(1,.pointer (some ⟨g1,0,none⟩)),(2,.string ((⟨#[]⟩ : ByteArray))),(3,.string s),(4,.int .i64 (↑b))],m.Blocks.length - b⟩) (0,(dgM m.Params) ++ (dgM (((List.length m.Blocks : Nat) : Int)))) ⟨by dsimp only; omega,rfl,by dsimp only; rw [ByteArray.size_append]; omega⟩ (dc d2 dn) (kc k0 kn) ⟨Z,Z,Z,eqI (by omega),trivial⟩ ?_
 rintro ⟨b,s⟩; dsimp only [u2]; rintro ⟨hb,hs,hz⟩
 refine jq (jq (jr (jm Z (js (jf F28_1 Z) (js (jl k0 O26 Z Z) (js (jln U26 (rMFunc.cB d0) Z) (js (jlss Z Z) (jn (jx ?_)))))))))
 refine jif Z (fun hc1 => ?_) (fun hc1 => ?_)
 have hsx := hS _ (ix_mem (l := m.Blocks) (i := b) (by omega))
 have hp1 := hsx.1
 have hp2 := hsx.2.1
 have hd2 := dgM_sz (ix m.Blocks b).Phis.length
 have hd3 := dgM_sz (ix m.Blocks b).Ins.length
 have hd4 := endT_sz (ix m.Blocks b).End
 refine jsk (jx (jq (jb (jq (jr (js (jf F28_1 Z) (js (jl k0 O26 Z Z) (jm Z (js (jix U26 Z95 (rMFunc.cB d0) Z Z Z (by omega)) (jA3 sMBlock (jlA (dix (rMFunc.cB d0) b (by omega)) A95 Z95 Z) fun c28a c28b c28c => jalc J95 Z fun g5 => ?_))))))))))
 refine jdq (rMBlock.cP d0) fun q7 w7 => jdq (rMBlock.cI d0) fun q8 w8 => jdq (rMBlock.cT d0) fun q9 w9 => jsta k0 Z95 Z Z Z ⟨w7.one,w8.one,Z,Z,Z,w9.one,Z,trivial⟩ (saf Z) (jn (jx (jq (jr (jm Z (js (jf F95_0 Z) (js (jl k0 O57 Z Z) (js (jln U57 (rMBlock.cP d0) Z) ?_))))))))
 refine jcv E97 Z Z (dg_ct (↑(List.length ((ix m.Blocks b).Phis))) (IntWalk.i64_in _ (by omega))) dn kn (js (jaddS Z Z (by (try simp only [ByteArray.size_append]); omega)) (ja Z (jn (jx (jq (jq (jr (ja Z (jn (jx (jb ?_)))))))))))
 refine jlp (u2 fun (i : Nat) (s2 : ByteArray) => ⟨i ≤ (ix m.Blocks b).Phis.length ∧ s2 = ((ix m.Blocks b).Phis.take i).foldl phT7 (s ++ dgM (ix m.Blocks b).Phis.length) ∧ s2.size ≤ s.size + 27 + i * 57982058550,[da rMBlock (vMBlock (ix m.Blocks b) (c28a,c28b,c28c)) (ix m.Blocks b),da rMFunc (vMFunc m a0) m],[bx g5 95 [c28a,c28b,.int .i64 (((ix m.Blocks b).End).Op),.int .i64 (((ix m.Blocks b).End).A),.int .i64 (((ix m.Blocks b).End).B),c28c,.int .i32 (((ix m.Blocks b).End).Imm)],bx g1 28 [.int .i64 m.Params,a0]],[(1,.pointer (some ⟨g1,0,none⟩)),(2,.string ((⟨#[]⟩ : ByteArray))),(3,.string s2),(4,.int .i64 (↑b)),(5,.pointer (some ⟨g5,0,none⟩)),(6,.int .i64 (↑i))],(ix m.Blocks b).Phis.length - i⟩) (0,s ++ (dgM (((List.length ((ix m.Blocks b).Phis) : Nat) : Int)))) ⟨by dsimp only; omega,rfl,by dsimp only; rw [ByteArray.size_append]; omega⟩ (dc d0 (dc d1 dn)) (kd kn) ⟨Z,Z,Z,Z,Z,eqI (by omega),trivial⟩ ?_
 rintro ⟨i,s2⟩; dsimp only [u2]; rintro ⟨hi,hs2,hz2⟩
 refine jq (jq (jr (jm Z (js (jf F95_0 Z) (js (jl k0 O57 Z Z) (js (jln U57 (rMBlock.cP d0) Z) (js (jlss Z Z) (jn (jx ?_)))))))))
 refine jif Z (fun hc2 => ?_) (fun hc2 => ?_)
 have hd5 := dgM_sz (ix (ix m.Blocks b).Phis i).Dst
 have hd6 := dgM_sz (ix (ix m.Blocks b).Phis i).In.length
 refine jsk (jx (jq (jb (jq (jany false (.a 0 (.a 1 (.a 2 (.a 3 (.a 4 (.a 5 (.a 6 (.a 9 (.a 10 (.a 11 (.a 12 (.a 13 (.a 14 (.a 15 (.o 7 (.a 8 (.o 16 (.a 17 (.a 18 .e))))))))))))))))))) Mixed (by kernel_rfl) (kc k0 kn) fun F10 => jy Z (jmv Z) (jy Z (jf F95_0 Z) (jy Z (jl k0 O57 Z Z) (jy Z (jmv Z) (jy Z (jix U57 Z65 (rMBlock.cP d0) Z Z Z (by omega)) (jy Z (jf F65_0 Z) ?_))))))))))
 refine jy Z (jlI (rPhi.A_Dst (dix (rMBlock.cP d0) i (by omega))) O3 Z) (jy Z (jf F95_0 Z) (jy Z (jl k0 O57 Z Z) (jy Z (jmv Z) (jy Z (jix U57 Z65 (rMBlock.cP d0) Z Z Z (by omega)) (jy Z (jf F65_1 Z) (jye (q := fun v => dv (rL rIn) v ((ix ((ix m.Blocks b).Phis) i).In)) Z (xlV (rPhi.A_In (dix (rMBlock.cP d0) i (by omega))) O63 Z Z) fun v56 => adq d0 fun q12 w12 => jy Z (jln U63 d0 Z) (jyo Z (jwr (wad (rPhi.A_Dst (dix (rMBlock.cP d2) i (by omega)))) fun w14 => jcv E97 Z Z (dg_ct ((ix ((ix m.Blocks b).Phis) i).Dst) w14) dn kn ?_))))))))
 refine jyn d0 (kc k0 kn) (jy Z (jaddS Z Z (by (try simp only [ByteArray.size_append]); omega)) (jyo Z (jcv E97 Z Z (dg_ct (↑(List.length ((ix ((ix m.Blocks b).Phis) i).In))) (IntWalk.i64_in _ (by omega))) dn kn (jyn d0 (kc k0 kn) (jy Z (jaddS Z Z (by (try simp only [ByteArray.size_append]); omega)) (jy Z (jas Z) (jyd (jx (jq (jr (ja Z ?_)))))))))))
 refine jn (jx (jb ?_))
 refine jlp (u2 fun (k : Nat) (s3 : ByteArray) => ⟨k ≤ (ix (ix m.Blocks b).Phis i).In.length ∧ s3 = ((ix (ix m.Blocks b).Phis i).In.take k).foldl zT (s2 ++ dgM (ix (ix m.Blocks b).Phis i).Dst ++ dgM (ix (ix m.Blocks b).Phis i).In.length) ∧ s3.size ≤ s2.size + 54 + k * 54,[da rMBlock (vMBlock (ix m.Blocks b) (c28a,c28b,c28c)) (ix m.Blocks b),da rMFunc (vMFunc m a0) m],[bx g5 95 [c28a,c28b,.int .i64 (((ix m.Blocks b).End).Op),.int .i64 (((ix m.Blocks b).End).A),.int .i64 (((ix m.Blocks b).End).B),c28c,.int .i32 (((ix m.Blocks b).End).Imm)],bx g1 28 [.int .i64 m.Params,a0]],[(1,.pointer (some ⟨g1,0,none⟩)),(2,.string ((⟨#[]⟩ : ByteArray))),(3,.string s3),(4,.int .i64 (↑b)),(5,.pointer (some ⟨g5,0,none⟩)),(6,.int .i64 (↑i)),(7,.int .i64 (↑k))],(ix (ix m.Blocks b).Phis i).In.length - k⟩) (0,(s2 ++ (dgM ((ix ((ix m.Blocks b).Phis) i).Dst))) ++ (dgM (((List.length ((ix ((ix m.Blocks b).Phis) i).In) : Nat) : Int)))) ⟨by dsimp only; omega,rfl,by dsimp only; simp only [ByteArray.size_append]; omega⟩ (dc d3 (dc d4 dn)) (kd kn) ⟨Z,Z,Z,Z,Z,Z,eqI (by omega),trivial⟩ ?_
 rintro ⟨k,s3⟩; dsimp only [u2]; rintro ⟨hk,hs3,hz3⟩
 refine jq (jq (jr (jm Z (js (jf F95_0 Z) (js (jl k0 O57 Z Z) (jm Z (js (jix U57 Z65 (rMBlock.cP d0) Z Z Z (by omega)) (js (jf F65_1 Z) (jev (jlV (rPhi.A_In (dix (rMBlock.cP d0) i (by omega))) O63 Z Z) fun v66 q16 w16 => js (jln U63 d0 Z) (js (jlss Z Z) ?_))))))))))
 refine jn (jx ?_)
 refine jif Z (fun hc3 => ?_) (fun hc3 => ?_)
 have hd7 := dgM_sz (ix (ix (ix m.Blocks b).Phis i).In k).From
 have hd8 := dgM_sz (ix (ix (ix m.Blocks b).Phis i).In k).Val
 refine jsk (jx (jq (jb (jany false (.a 0 (.a 1 (.a 2 (.a 3 (.a 4 (.a 5 (.a 6 (.a 7 (.a 8 (.a 9 (.a 10 (.a 13 (.a 14 (.a 15 (.a 16 (.a 17 (.a 18 (.a 19 (.a 20 (.a 21 (.a 22 (.o 11 (.a 12 (.o 23 (.a 24 (.a 25 .e)))))))))))))))))))))))))) Mixed (by kernel_rfl) (kc k0 kn) fun F18 => jy Z (jmv Z) (jy Z (jf F95_0 Z) (jy Z (jl k0 O57 Z Z) (jy Z (jmv Z) (jy Z (jix U57 Z65 (rMBlock.cP d1) Z Z Z (by omega)) (jy Z (jf F65_1 Z) (jye (q := fun v => dv (rL rIn) v ((ix ((ix m.Blocks b).Phis) i).In)) Z (xlV (rPhi.A_In (dix (rMBlock.cP d1) i (by omega))) O63 Z Z) fun v77 => ?_))))))))))
 refine jy Z (jmv Z) (adq d0 fun q20 w20 => jy Z (jix U63 Z111 d0 Z Z Z (by omega)) (jy Z (jf F111_0 Z) (jy Z (jlI (rIn.A_From (dix d0 k (by omega))) O3 Z) (jy Z (jf F95_0 Z) (jy Z (jl k0 O57 Z Z) (jy Z (jmv Z) (jy Z (jix U57 Z65 (rMBlock.cP d2) Z Z Z (by omega)) (jy Z (jf F65_1 Z) (jye (q := fun v => dv (rL rIn) v ((ix ((ix m.Blocks b).Phis) i).In)) Z (xlV (rPhi.A_In (dix (rMBlock.cP d2) i (by omega))) O63 Z Z) fun v89 => jy Z (jmv Z) ?_)))))))))
 refine adq d0 fun q22 w22 => jy Z (jix U63 Z111 d0 Z Z Z (by omega)) (jy Z (jf F111_1 Z) (jy Z (jlI (rIn.A_Val (dix d0 k (by omega))) O3 Z) (jyo Z (jwr (wad (rIn.A_From (dix d2 k (by omega)))) fun w24 => jcv E97 Z Z (dg_ct ((ix ((ix ((ix m.Blocks b).Phis) i).In) k).From) w24) dn kn (jyn d0 (kc k0 kn) (jy Z (jaddS Z Z (by (try simp only [ByteArray.size_append]); omega)) (jyo Z (jwr (wad (rIn.A_Val (dix d2 k (by omega)))) fun w26 => jcv E97 Z Z (dg_ct ((ix ((ix ((ix m.Blocks b).Phis) i).In) k).Val) w26) dn kn ?_))))))))
 refine jyn d0 (kc k0 kn) (jy Z (jaddS Z Z (by (try simp only [ByteArray.size_append]); omega)) (jy Z (jas Z) (jyd (jbn (jx (jr (jm Z (js (jadd Z Z (by omega)) (ja Z (jn ?_))))))))))
 exact jag (k + 1,(s3 ++ (dgM ((ix ((ix ((ix m.Blocks b).Phis) i).In) k).From))) ++ (dgM ((ix ((ix ((ix m.Blocks b).Phis) i).In) k).Val))) ⟨by dsimp only; omega,by dsimp only; rw [fold_nx (by omega),← hs3]; rfl,by dsimp only; simp only [ByteArray.size_append]; omega⟩ (dc d5 (dc d6 dn)) (kd kn) ⟨Z,Z,Z,Z,Z,Z,eqI (by omega),trivial⟩
 have h3 := hs3.trans (fold_all (by omega) _)
 refine jex (jtx (jtx (jbh (jbn (jx (jr (jm Z (js (jadd Z Z (by omega)) (ja Z (jn ?_))))))))))
 exact jag (i + 1,s3) ⟨by dsimp only; omega,by dsimp only; rw [fold_nx (by omega),← hs2,h3]; rfl,by dsimp only; omega⟩ (dc d1 (dc d2 dn)) (kd kn) ⟨Z,Z,Z,Z,Z,eqI (by omega),trivial⟩
 have h2 := hs2.trans (fold_all (by omega) _)
 refine jex (jtx (jtx (jbh (jx (jq (jr (jm Z (js (jf F95_1 Z) (js (jl k0 O93 Z Z) (js (jln U93 (rMBlock.cI d0) Z) (jcv E97 Z Z (dg_ct (↑(List.length ((ix m.Blocks b).Ins))) (IntWalk.i64_in _ (by omega))) dn kn ?_)))))))))))
 refine js (jaddS Z Z (by (try simp only [ByteArray.size_append]); omega)) (ja Z (jn (jx (jq (jq (jr (ja Z (jn (jx (jb ?_))))))))))
 refine jlp (u2 fun (j : Nat) (s4 : ByteArray) => ⟨j ≤ (ix m.Blocks b).Ins.length ∧ s4 = ((ix m.Blocks b).Ins.take j).foldl iT7 (s2 ++ dgM (ix m.Blocks b).Ins.length) ∧ s4.size ≤ s2.size + 27 + j * 28991029464,[da rMBlock (vMBlock (ix m.Blocks b) (c28a,c28b,c28c)) (ix m.Blocks b),da rMFunc (vMFunc m a0) m],[bx g5 95 [c28a,c28b,.int .i64 (((ix m.Blocks b).End).Op),.int .i64 (((ix m.Blocks b).End).A),.int .i64 (((ix m.Blocks b).End).B),c28c,.int .i32 (((ix m.Blocks b).End).Imm)],bx g1 28 [.int .i64 m.Params,a0]],[(1,.pointer (some ⟨g1,0,none⟩)),(2,.string ((⟨#[]⟩ : ByteArray))),(3,.string s4),(4,.int .i64 (↑b)),(5,.pointer (some ⟨g5,0,none⟩)),(8,.int .i64 (↑j))],(ix m.Blocks b).Ins.length - j⟩) (0,s2 ++ (dgM (((List.length ((ix m.Blocks b).Ins) : Nat) : Int)))) ⟨by dsimp only; omega,rfl,by dsimp only; rw [ByteArray.size_append]; omega⟩ (dc d0 (dc d1 dn)) (kd kn) ⟨Z,Z,Z,Z,Z,eqI (by omega),trivial⟩ ?_
 rintro ⟨j,s4⟩; dsimp only [u2]; rintro ⟨hj,hs4,hz4⟩
 refine jq (jq (jr (jm Z (js (jf F95_1 Z) (js (jl k0 O93 Z Z) (js (jln U93 (rMBlock.cI d0) Z) (js (jlss Z Z) (jn (jx ?_)))))))))
 refine jif Z (fun hc4 => ?_) (fun hc4 => ?_)
 have hd9 := insT_sz (ix (ix m.Blocks b).Ins j)
 refine jsk (jx (jq (jb (jr (jm Z (js (jf F95_1 Z) (js (jl k0 O93 Z Z) (jm Z (js (jix U93 Z24 (rMBlock.cI d0) Z Z Z (by omega)) (jA sMach (jlA (dix (rMBlock.cI d0) j (by omega)) A24 Z24 Z) fun c114 => jdq (rMach.c_Args d0) fun q28 w28 => ?_))))))))))
 refine jcv E98 Z Z insT_ct (dc d0 dn) kn (js (jaddS Z Z (by (try simp only [ByteArray.size_append]); omega)) (ja Z (jn (jbn (jx (jr (jm Z (js (jadd Z Z (by omega)) (ja Z (jn ?_))))))))))
 exact jag (j + 1,s4 ++ (insT (ix ((ix m.Blocks b).Ins) j))) ⟨by dsimp only; omega,by dsimp only; rw [fold_nx (by omega),← hs4]; rfl,by dsimp only; rw [ByteArray.size_append]; omega⟩ (dc d1 (dc d2 dn)) (kd kn) ⟨Z,Z,Z,Z,Z,eqI (by omega),trivial⟩
 have h4 := hs4.trans (fold_all (by omega) _)
 refine jex (jtx (jtx (jbh (jx (jr (jm Z (js (jf F95_2 Z) (js (jla k0 A88 Z88 Z Z Z) (jcv E99 Z Z endT_ct (dc (rMBlock.P_End d0) dn) kn (js (jaddS Z Z (by (try simp only [ByteArray.size_append]); omega)) (ja Z ?_)))))))))))
 refine jn (jbn (jx (jr (jm Z (js (jadd Z Z (by omega)) (ja Z (jn ?_)))))))
 exact jag (b + 1,s4 ++ (endT ((ix m.Blocks b).End))) ⟨by dsimp only; omega,by dsimp only; rw [fold_nx (by omega),← hs,h4,h2]; rfl,by dsimp only; (try simp only [ByteArray.size_append]); omega⟩ (dc d1 dn) (kc k1 kn) ⟨Z,Z,Z,eqI (by omega),trivial⟩
 refine jex (jtx (jtx (jbh (jx (jq (jr (jm Z (ja Z (jn (jx (jrt ?_)))))))))))
 exact jrS Z Z (by unfold funT7; rw [hs,fold_all (by omega)])
end Go.Proofs.YtmfkkodnghambaaGreat
namespace Go.Proofs.YtmfkkodnghambaaGreat
open Go.JE
section
variable {P : Program} {Γ : List Dt} {L M N : List Res} {e : Env} {X : Cx} {w0 : World} {fn : Func} {m : Nat}
theorem jrcO {a b : D.Outcome} {p g : Nat} {ty T : TypeId} {mv cv : Value} (hr : fn.results = #[.cell p ty]) (hv : lk e p = some (.pointer (some ⟨g,0,none⟩))) (hb : Tk L (bx g T [.int .i64 b.End,.int .i32 b.Val,mv,cv,.int .i64 b.Steps]) N) (hA : ∃ d,P.underlying ty = some d ∧ (match d with | .struct _ | .array _ _ => true | _ => false) = true) (hS : Sz P ty 5)
   (he : a = b) (hd : Nd Γ L (dv (rL rEvent) cv b.Calls)) (hk : Tk L (gl X.n (rI .i32) 21 mv b.Mem) M) : QH ⟨m,[]⟩ w0 (RQ2 P fn w0 X (fun c : Value × Value => .agg #[.int .i64 a.End,.int .i32 a.Val,c.1,c.2,.int .i64 a.Steps]) (fun c => [dv (rL rEvent) c.2 a.Calls]) (fun B c => [gl B (rI .i32) 21 c.1 a.Mem])) X Γ L e .ret := by
 subst he
 exact jrc hr hv hb hA hS (mv,cv) rfl (dc hd dn) (fun _ hB => klc rfl hB hk kn)
end
set_option maxRecDepth 8000 in
set_option maxHeartbeats 4000000 in
theorem pRunO_ct {a0 : Value} {m : D.MFunc} {a1a a1b a1c : Value} {i : D.Input} (hstp : i.Steps ≤ 1000000) : Tr Tryz.prog 12 #[vMFunc m a0,vInput i (a1a,a1b,a1c)] [da rMFunc (vMFunc m a0) m,da rInput (vInput i (a1a,a1b,a1c)) i] [] (fun c : Value × Value => .agg #[.int .i64 (runM m i).End,.int .i32 (runM m i).Val,c.1,c.2,.int .i64 (runM m i).Steps]) (fun c => [dv (rL rEvent) c.2 (runM m i).Calls]) (fun B c => [gl B (rI .i32) 21 c.1 (runM m i).Mem]) := by
 refine jenter (args := [vMFunc m a0,vInput i (a1a,a1b,a1c)]) Tryz.func12 rfl rfl rfl fun w0 X => ?_
 refine jq (jr (jbox Z Z fun g2 => jbox Z Z fun g3 => jalc J37 Z fun g4 => jn (jx (jsc (jq (jq (jr (js (jla k2 A28 Z28 Z Z Z) ?_))))))))
 refine jcv E35 Z Z pRight_ct (dc d0 dn) kn (js (jnot Z) (jn (jx ?_)))
 refine jif Z (fun hc1 => ?_) (fun hc1 => ?_)
 refine jq (jr (js (jbu (v := .agg #[.int .i64 4,.int .i32 0,.slice none 0 0,.slice none 0 0,.int .i64 0]) Z (fun _ => by kernel_rfl)) (jsta k0 Z37 Z Z Z ⟨Z,Z,Z,Z,Z,trivial⟩ (saf Z) (jn (jx (jrt (jtr (jso (qnl (r := (rI .i32)) (E := 21) ?_)))))))))
 exact jrcO (b := ⟨4,0,[],[],0⟩) (mv := .slice none 0 0) (cv := .slice none 0 0) Z Z k1 A37 Z37 (by first | exact run_wrong (by simpa using hc1) | exact ins_stop hI (by omega) hc3 | exact ins_trap hI (by omega) hc3 hc4 (by simpa using hc7) | exact end_stop hI (by omega) hc8 | exact end_ret hI (by omega) hc8 hc9 | exact end_trap hI (by omega) hc8 hc9 hc10) wN k0
 have hR : rightM m = true := by simpa using hc1
 have hW := right_wf hR
 have hp0 := hW.p0
 have hn0 := hW.n0
 refine jsk (jx (jq (jr (js (jla k1 A31 Z31 Z Z Z) (jcg E28 Z Z pMem_ct (dc d1 dn) kn fun v24 w1 => js (jbu (v := .agg #[.int .i64 0,.int .i32 0,v24,.slice none 0 0,.int .i64 0]) Z (fun _ => by obtain ⟨_,_,_,rfl⟩ := w1; kernel_rfl)) (jalc J37 Z fun g5 => jsta k0 Z37 Z Z Z ⟨Z,Z,w1.one,Z,Z,trivial⟩ (saf Z) (jn (jx (jq ?_)))))))))
 refine jr (jmk (m := 8192) (r := (rI .i32)) U29 I21 Z Z Z Z Z (by omega) (wI (wp (by decide))) Z fun g26 => ja Z (jn (jx (jq (jtl 6 Mixed (by kernel_rfl) (jt (jmv Z) (jt (jf F28_0 Z) (jt (jl k5 O3 Z Z) (jt (jshg (hi := (Int.toNat m.Params)) U29 Z21 k0 Z Z (by omega) (by rw [lrep]; omega)) (jt (jf F31_0 Z) ?_))))))))))
 refine jt (jl k4 O29 Z Z) (jtt (jdq (rInput.c_Args d1) fun q2 w2 => jcpy U29 I21 Z Z Z k0 (by rw [lrep]; omega) (rInput.c_Args d1) (jn (jx (jq (jr (js (jf F31_2 Z) (js (jl k4 O29 Z Z) (ja Z (jn ?_))))))))))
 refine jx (jq (jr (js (jmf1 Z) (ja Z (jn (jx (jq (jr (ja Z (ja Z (jn ?_)))))))))))
 refine jx (jq (jlab (jx (jq (jb (cnl (r := rEvent) (E := 74) ?_))))))
 refine jlp (u10 fun (f : Nat) (ab : Int) (fb : Int) (rs : List Int) (me : List Int) (cl : List D.Event) (an : List Int) (s9 : Int) (vc : Value) (va : Value) => ⟨0 < f ∧ runM m i = blockRun m.Blocks i.Steps f ab fb rs me cl an s9 ∧ (0 ≤ ab ∧ ab < m.Blocks.length) ∧ (∀ p ∈ (ix m.Blocks (Int.toNat ab)).Phis,phiOk fb 8192 p) ∧ rs.length = 8192 ∧ me.length ≤ 4096 ∧ 0 ≤ s9 ∧ cl.length ≤ s9 ∧ (s9 ≤ i.Steps ∨ s9 = 0) ∧ i.Steps - s9 < f,[da rMFunc (vMFunc m a0) m,da rInput (vInput i (a1a,a1b,a1c)) i,dv (rL (rI .i32)) va an],[gl X.n rEvent 74 vc cl,gl X.n (rI .i32) 21 (.slice (some ⟨g26,0,none⟩) 8192 8192) rs,bx g5 37 [.int .i64 0,.int .i32 0,v24,vc,.int .i64 s9],gl X.n (rI .i32) 21 v24 me,bx g4 37 [.int .i64 0,.int .i32 0,.slice none 0 0,.slice none 0 0,.int .i64 0],bx g3 31 [a1a,a1b,a1c,.int .i64 i.Steps],bx g2 28 [.int .i64 m.Params,a0]],[(2,.pointer (some ⟨g2,0,none⟩)),(3,.pointer (some ⟨g3,0,none⟩)),(4,.pointer (some ⟨g4,0,none⟩)),(5,.pointer (some ⟨g5,0,none⟩)),(6,(.slice (some ⟨g26,0,none⟩) 8192 8192)),(7,va),(8,.func (.func 39) #[] #[.pointer (some ⟨g5,0,none⟩)]),(9,.int .i64 ab),(10,.int .i64 fb)],f⟩) (Int.toNat i.Steps + 1,0,(-1),startR m i,memM i,[],i.Answers,0,.slice none 0 0,a1c) ⟨by dsimp only; omega,run_right hR,by dsimp only; omega,hW.from0,startR_len hW i,memM_len i,Int.le_refl _,by simp,by dsimp only; omega,by dsimp only; omega⟩ (dc d0 (dc d1 (dc (rInput.c_Answers d1) dn))) (kd (kd (kd (kc k0 kn)))) ⟨Z,Z,Z,Z,Z,Z,Z,Z,Z,trivial⟩ ?_
 rintro ⟨f,ab,fb,rs,me,cl,an,s9,vc,va⟩; dsimp only [u10]; rintro ⟨hf,hrun,hat,hfr,hrl,hml,hs0,hcl,hst,hfu⟩
 refine cgo k0 fun w4 => cdq d2 fun q5 w5 => jb (jq (jr (js (jf F28_1 Z) (js (jl k6 O26 Z Z) (jm Z (jdq (rMFunc.cB d0) fun q6 w6 => js (jix (i := (Int.toNat ab)) U26 Z95 (rMFunc.cB d0) Z Z (by omega) (by omega)) (jA3 sMBlock (jlA (dix (rMFunc.cB d0) (Int.toNat ab) (by omega)) A95 Z95 Z) fun c41a c41b c41c => jalc J95 Z fun g11 => ?_)))))))
 refine jdq (rMBlock.cP d0) fun q8 w8 => jdq (rMBlock.cI d0) fun q9 w9 => jdq (rMBlock.cT d0) fun q10 w10 => jsta k0 Z95 Z Z Z ⟨w8.one,w9.one,Z,Z,Z,w10.one,Z,trivial⟩ (saf Z) (jn (jx (jq (jr (js (jf F95_0 Z) (js (jl k0 O57 Z Z) (jm Z (jm Z ?_))))))))
 refine jc E40 Z Z (pPhis_ct fb (by omega) (by rw [hrl]; exact hfr)) (dc (rMBlock.cP d0) dn) (kc k2 kn) (fun _ => p0) (fun _ => p1) fun _ => jn (jx (jq (jq (jr (js (jf F95_1 Z) (js (jl k1 O93 Z Z) (js (jln U93 (rMBlock.cI d0) Z) (jm Z (jn (jx ?_))))))))))
 refine jb ?_
 refine jlp (u8 fun (k : Nat) (rs2 : List Int) (me2 : List Int) (cl2 : List D.Event) (an2 : List Int) (s2 : Int) (vc2 : Value) (va2 : Value) => ⟨k ≤ (ix m.Blocks (Int.toNat ab)).Ins.length ∧ runM m i = insRun i.Steps (endRun i.Steps (ix m.Blocks (Int.toNat ab)).End (fun t => blockRun m.Blocks i.Steps (f - 1) t ab)) ((ix m.Blocks (Int.toNat ab)).Ins.drop k) rs2 me2 cl2 an2 s2 ∧ rs2.length = 8192 ∧ me2.length ≤ 4096 ∧ s9 ≤ s2 ∧ cl2.length ≤ s2 ∧ (s2 ≤ i.Steps ∨ s2 = 0),[da rMBlock (vMBlock (ix m.Blocks (Int.toNat ab)) (c41a,c41b,c41c)) (ix m.Blocks (Int.toNat ab)),da rMFunc (vMFunc m a0) m,da rInput (vInput i (a1a,a1b,a1c)) i,dv (rL (rI .i32)) va2 an2],[gl X.n (rI .i32) 21 (.slice (some ⟨g26,0,none⟩) 8192 8192) rs2,bx g11 95 [c41a,c41b,.int .i64 (((ix m.Blocks (Int.toNat ab)).End).Op),.int .i64 (((ix m.Blocks (Int.toNat ab)).End).A),.int .i64 (((ix m.Blocks (Int.toNat ab)).End).B),c41c,.int .i32 (((ix m.Blocks (Int.toNat ab)).End).Imm)],gl X.n rEvent 74 vc2 cl2,bx g5 37 [.int .i64 0,.int .i32 0,v24,vc2,.int .i64 s2],gl X.n (rI .i32) 21 v24 me2,bx g4 37 [.int .i64 0,.int .i32 0,.slice none 0 0,.slice none 0 0,.int .i64 0],bx g3 31 [a1a,a1b,a1c,.int .i64 i.Steps],bx g2 28 [.int .i64 m.Params,a0]],[(2,.pointer (some ⟨g2,0,none⟩)),(3,.pointer (some ⟨g3,0,none⟩)),(4,.pointer (some ⟨g4,0,none⟩)),(5,.pointer (some ⟨g5,0,none⟩)),(6,(.slice (some ⟨g26,0,none⟩) 8192 8192)),(7,va2),(8,.func (.func 39) #[] #[.pointer (some ⟨g5,0,none⟩)]),(9,.int .i64 ab),(10,.int .i64 fb),(11,.pointer (some ⟨g11,0,none⟩)),(48,c41b),(49,.int .i64 (↑(List.length ((ix m.Blocks (Int.toNat ab)).Ins)))),(50,.int .i64 (↑k))],(ix m.Blocks (Int.toNat ab)).Ins.length - k⟩) (0,phisM ((ix m.Blocks (Int.toNat ab)).Phis) fb rs,me,cl,an,s9,vc,va) ⟨by dsimp only; omega,by dsimp only; rw [hrun,blockRun_pos hf]; rfl,by dsimp only; rw [phisM_len]; exact hrl,hml,by dsimp only; omega,hcl,hst⟩ (dc d0 (dc d1 (dc d2 (dc d3 dn)))) (kd (kd (kd (kd kn)))) ⟨Z,Z,Z,Z,Z,Z,Z,Z,Z,Z,Z,Z,eqI (by omega),trivial⟩ ?_
 rintro ⟨k,rs2,me2,cl2,an2,s2,vc2,va2⟩; dsimp only [u8]; rintro ⟨hk,hI,hrl2,hml2,hss,hcl2,hst2⟩
 refine cgo k2 fun w12 => cdq d3 fun q13 w13 => jq (jr (js (jlss Z Z) (jn (jx (jq ?_)))))
 refine jif Z (fun hc2 => ?_) (fun hc2 => ?_)
 refine jsk (jx (jq (jb (jq (jr (js (jix U93 Z24 (rMBlock.cI d0) Z Z Z (by omega)) (jA sMach (jlA (dix (rMBlock.cI d0) k (by omega)) A24 Z24 Z) fun c53 => jalc J24 Z fun g13 => jdq (rMach.c_Args d0) fun q15 w15 => jsta k0 Z24 Z Z Z ⟨Z,Z,Z,Z,Z,Z,Z,w15.one,trivial⟩ (saf Z) (jn ?_))))))))
 refine jx (jq (jq (jr (js (jf F37_4 Z) (js (jl k4 O3 Z Z) (js (jf F31_3 Z) (js (jl k7 O3 Z Z) (js (jgeq Z Z) (jn (jx ?_))))))))))
 refine jif Z (fun hc3 => ?_) (fun hc3 => ?_)
 refine jex (jtx (jbo (jtx (jtx (jbo (jtx (jbo (jtx (jbh (jx (jq ?_)))))))))))
 refine jr (jm Z (jc E39 Z Z (pStop_ct 3 0 w1.one w12.one) dn (kc k4 kn) (fun _ => p0) (fun _ => p1) fun _ => jsta k6 Z37 Z Z Z ⟨Z,Z,w1.one,w12.one,Z,trivial⟩ (saf Z) (jn (jx (jrt (jso (qfz k5 (by omega) ?_)))))))
 exact jrcO (b := ⟨3,0,me2,cl2,s2⟩) (mv := v24) (cv := vc2) Z Z k0 A37 Z37 (by first | exact run_wrong (by simpa using hc1) | exact ins_stop hI (by omega) hc3 | exact ins_trap hI (by omega) hc3 hc4 (by simpa using hc7) | exact end_stop hI (by omega) hc8 | exact end_ret hI (by omega) hc8 hc9 | exact end_trap hI (by omega) hc8 hc9 hc10) d0 k5
 have hNi := hc3
 refine jsk (jx (jq (jr (js (jf F37_4 Z) (js (jl k4 O3 Z Z) (js (jadd Z Z (by omega)) (js (jf F37_4 Z) (jst k4 Z3 Z Z Z s4 (jn (jx (jq ?_)))))))))))
 refine jq (jr (js (jf F24_0 Z) (js (jl k1 O3 Z Z) (js (jeql Z Z) (jn (jx ?_))))))
 refine jif Z (fun hc4 => ?_) (fun hc4 => ?_)
 have h28 := hc4
 have hi28 := hW.ins _ (ix_mem (l := m.Blocks) (i := Int.toNat ab) (by omega)) _ (ix_mem (l := (ix m.Blocks (Int.toNat ab)).Ins) (i := k) (by omega)) hc4
 obtain ⟨hD0,hD1,hA4,hAr⟩ := hi28
 refine jq (jr (js (jf F24_6 Z) (js (jl k1 O21 Z Z) (js (jbu (v := .agg #[.int .i32 ((ix ((ix m.Blocks (Int.toNat ab)).Ins) k).Imm),.slice none 0 0]) Z (fun _ => by kernel_rfl)) (jalc J74 Z fun g14 => jsta k0 Z74 Z Z Z ⟨Z,Z,trivial⟩ (saf Z) (jn (jx (jq (jq (jr ?_))))))))))
 refine js (jf F24_7 Z) (js (jl k2 O22 Z Z) (js (jln U22 (rMach.c_Args d0) Z) (jm Z (jn (jx (jb (cnl (r := (rI .i32)) (E := 21) ?_)))))))
 refine jlp (u3 fun (j : Nat) (ea : List Int) (ve : Value) => ⟨j ≤ (ix (ix m.Blocks (Int.toNat ab)).Ins k).Args.length ∧ ea = ((ix (ix m.Blocks (Int.toNat ab)).Ins k).Args.take j).map (fun r => ix rs2 (Int.toNat r)),[da rMach (vMach (ix ((ix m.Blocks (Int.toNat ab)).Ins) k) c53) (ix ((ix m.Blocks (Int.toNat ab)).Ins) k),da rMBlock (vMBlock (ix m.Blocks (Int.toNat ab)) (c41a,c41b,c41c)) (ix m.Blocks (Int.toNat ab)),da rMFunc (vMFunc m a0) m,da rInput (vInput i (a1a,a1b,a1c)) i,dv (rL (rI .i32)) va2 an2],[gl X.n (rI .i32) 21 ve ea,bx g14 74 [.int .i32 ((ix ((ix m.Blocks (Int.toNat ab)).Ins) k).Imm),ve],bx g5 37 [.int .i64 0,.int .i32 0,v24,vc2,.int .i64 (s2 + 1)],bx g13 24 [.int .i64 ((ix ((ix m.Blocks (Int.toNat ab)).Ins) k).Op),.int .i64 ((ix ((ix m.Blocks (Int.toNat ab)).Ins) k).D),.int .i64 ((ix ((ix m.Blocks (Int.toNat ab)).Ins) k).E),.int .i64 ((ix ((ix m.Blocks (Int.toNat ab)).Ins) k).A),.int .i64 ((ix ((ix m.Blocks (Int.toNat ab)).Ins) k).B),.int .i64 ((ix ((ix m.Blocks (Int.toNat ab)).Ins) k).C),.int .i32 ((ix ((ix m.Blocks (Int.toNat ab)).Ins) k).Imm),c53],gl X.n (rI .i32) 21 (.slice (some ⟨g26,0,none⟩) 8192 8192) rs2,bx g11 95 [c41a,c41b,.int .i64 (((ix m.Blocks (Int.toNat ab)).End).Op),.int .i64 (((ix m.Blocks (Int.toNat ab)).End).A),.int .i64 (((ix m.Blocks (Int.toNat ab)).End).B),c41c,.int .i32 (((ix m.Blocks (Int.toNat ab)).End).Imm)],gl X.n rEvent 74 vc2 cl2,gl X.n (rI .i32) 21 v24 me2,bx g4 37 [.int .i64 0,.int .i32 0,.slice none 0 0,.slice none 0 0,.int .i64 0],bx g3 31 [a1a,a1b,a1c,.int .i64 i.Steps],bx g2 28 [.int .i64 m.Params,a0]],[(2,.pointer (some ⟨g2,0,none⟩)),(3,.pointer (some ⟨g3,0,none⟩)),(4,.pointer (some ⟨g4,0,none⟩)),(5,.pointer (some ⟨g5,0,none⟩)),(6,(.slice (some ⟨g26,0,none⟩) 8192 8192)),(7,va2),(8,.func (.func 39) #[] #[.pointer (some ⟨g5,0,none⟩)]),(9,.int .i64 ab),(10,.int .i64 fb),(11,.pointer (some ⟨g11,0,none⟩)),(13,.pointer (some ⟨g13,0,none⟩)),(14,.pointer (some ⟨g14,0,none⟩)),(48,c41b),(49,.int .i64 (↑(List.length ((ix m.Blocks (Int.toNat ab)).Ins)))),(50,.int .i64 (↑k)),(70,c53),(71,.int .i64 (↑(List.length ((ix ((ix m.Blocks (Int.toNat ab)).Ins) k).Args)))),(72,.int .i64 (↑j))],(ix (ix m.Blocks (Int.toNat ab)).Ins k).Args.length - j⟩) (0,[],.slice none 0 0) ⟨by dsimp only; omega,rfl⟩ (dc d0 (dc d1 (dc d2 (dc d3 (dc d4 dn))))) (kd (kd (kd (kd (kd (kc k0 kn)))))) ⟨Z,Z,Z,Z,Z,Z,Z,Z,Z,Z,Z,Z,Z,Z,Z,Z,Z,eqI (by omega),trivial⟩ ?_
 rintro ⟨j,ea,ve⟩; dsimp only [u3]; rintro ⟨hj,hea⟩
 refine cgo k0 fun w17 => ?_
 have hel : ea.length = j := by rw [hea]; simp; omega
 refine jq (jr (js (jlss Z Z) (jn (jx (jq ?_)))))
 refine jif Z (fun hc5 => ?_) (fun hc5 => ?_)
 have har := hAr _ (ix_mem (l := (ix (ix m.Blocks (Int.toNat ab)).Ins k).Args) (i := j) (by omega))
 refine jsk (jx (jq (jb (jq (jr (js (jix U22 Z3 (rMach.c_Args d0) Z Z Z (by omega)) (js (jlI (dix (rMach.c_Args d0) j (by omega)) O3 Z) (ja Z (jn (jx (jany true (.a 0 (.a 1 (.a 2 (.a 3 (.a 4 (.a 5 (.o 6 (.o 7 (.a 8 (.o 9 .e)))))))))) Mixed (by kernel_rfl) (kc k1 (kc k3 kn)) fun F18 => ?_)))))))))))
 refine jy Z (jf F74_1 Z) (jy Z (jl k0 O29 Z Z) (jy Z (jmv Z) (jy Z (jmv Z) (jy Z (jig (i := (Int.toNat (ix ((ix ((ix m.Blocks (Int.toNat ab)).Ins) k).Args) j))) U29 Z21 k1 Z Z (by omega) (by omega)) (jy Z (jgI k1 (by omega) O21 Z) (jyo Z (jlit (r := (rI .i32)) (l := [ix rs2 (Int.toNat (ix ((ix ((ix m.Blocks (Int.toNat ab)).Ins) k).Args) j))]) U29 I21 (by decide) Z Z Z (lV Z Z (wI (wgl k4 (by omega))) ln) fun g82 => jyn d0 (kc k2 (kc k4 kn)) (jyo Z (jfz k0 (by (try simp) <;> omega) (japl U29 I21 (by decide) Z k0 Z Z d0 (by (try simp) <;> omega) fun v83 w22 => ?_))))))))))
 refine jyn d1 (kc k1 (kc k3 kn)) (jy Z (jf F74_1 Z) (jyo Z (jst k1 Z29 Z Z w22.one s1 (jyz d0 (jyd (jbn (jx (jr (js (jadd Z Z (by omega)) (jm Z (jn ?_)))))))))))
 exact jag (j + 1,ea ++ ([ix rs2 (Int.toNat (ix ((ix ((ix m.Blocks (Int.toNat ab)).Ins) k).Args) j))]),v83) ⟨by dsimp only; omega,by dsimp only; rw [hea,take_ix (by omega),List.map_append]; rfl⟩ (dc d4 (dc d5 (dc d6 (dc d7 (dc d8 dn))))) (kc k1 (kd (kd (kd (kd (kd kn)))))) ⟨Z,Z,Z,Z,Z,Z,Z,Z,Z,Z,Z,Z,Z,Z,Z,Z,Z,eqI (by omega),trivial⟩
 have hja : (ix (ix m.Blocks (Int.toNat ab)).Ins k).Args.length ≤ j := by omega
 refine jex (jtx (jtx (jbh (jx (jq (jr (js (jf F37_3 Z) (js (jl k2 O35 Z Z) (js (jla k1 A74 Z74 Z Z Z) (jfz k0 (by omega) (jap U35 I74 (by decide) Z k5 Z (rEvent.M (m := ⟨(ix ((ix m.Blocks (Int.toNat ab)).Ins) k).Imm,ea⟩) (c := ve) d0 (rMach.W_Imm d1)) (by omega) (fun _ => Z) fun v90 _ w25 => ?_)))))))))))
 refine js (jf F37_3 Z) (jst k2 Z35 Z Z w25.one s3 (jn (jx (jq (jr (jm Z (js (jf F24_1 Z) (js (jl k3 O3 Z Z) (js (jig (i := (Int.toNat ((ix ((ix m.Blocks (Int.toNat ab)).Ins) k).D))) U29 Z21 k4 Z Z (by omega) (by omega)) (jsg k4 Z Z21 Z Z Z (by omega) (wI (wl 0)) (jn ?_)))))))))))
 refine jx (jq (jq (jr (jm Z (js (jln U29 d5 Z) (js (jgtr Z Z) (jn (jx ?_))))))))
 refine jif Z (fun hc6 => ?_) (fun hc6 => ?_)
 refine jany false (.a 0 (.a 1 (.a 2 (.a 3 (.a 4 (.a 5 (.a 6 (.a 7 (.o 8 (.o 9 (.a 10 .e))))))))))) Mixed (by kernel_rfl) (kc k4 kn) fun F26 => jy Z (jmv Z) (jy Z (jf F24_1 Z) (jy Z (jl k0 O3 Z Z) (jy Z (jmv Z) (jy Z (jix (i := 0) U29 Z21 d5 Z Z Z (by omega)) (jy Z (jlI (dix d5 0 (by omega)) O21 Z) (jy Z (jmv Z) (jy Z (jslo (lo := 1) U29 Z21 d5 Z Z Z (by omega)) (jyo Z (js (jig (i := (Int.toNat ((ix ((ix m.Blocks (Int.toNat ab)).Ins) k).D))) U29 Z21 k0 Z Z (by omega) (by first | omega | (simp <;> omega))) (jyn d0 (kc k4 kn) ?_))))))))))
 refine jyo Z (jsg k0 Z Z21 Z Z Z (by first | omega | (simp <;> omega)) (wI (wad (dix d7 0 (by omega)))) (jyn d0 (kc k4 kn) (jy Z (jas Z) (jyd (jx (jex (jtx (jbh (jx (jr (js (jadd Z Z (by omega)) ?_)))))))))))
 refine jm Z (jn ?_)
 exact jag (k + 1,List.set (List.set rs2 (Int.toNat ((ix ((ix m.Blocks (Int.toNat ab)).Ins) k).D)) 0) (Int.toNat ((ix ((ix m.Blocks (Int.toNat ab)).Ins) k).D)) (ix an2 0),me2,cl2 ++ [⟨(ix ((ix m.Blocks (Int.toNat ab)).Ins) k).Imm,ea⟩],List.drop 1 an2,s2 + 1,v90,(resl 1 va2 1 (List.length an2))) ⟨by dsimp only; omega,by dsimp only; first | exact ins_callA hI (by omega) hNi h28 hja hea (by omega) | exact ins_callB hI (by omega) hNi h28 hja hea | exact ins_ok hI (by omega) hNi h28 hdo,by dsimp only; first | (rw [List.length_set,List.length_set]; exact hrl2) | (rw [List.length_set]; exact hrl2) | (rw [(stepM_len _ _ _).1]; exact hrl2),by dsimp only; first | exact hml2 | (rw [(stepM_len _ _ _).2]; exact hml2),by dsimp only; omega,by dsimp only; first | (rw [List.length_append]; simp; omega) | omega,by dsimp only; omega⟩ (dc d4 (dc d5 (dc d6 (dc (dlo d7 1 (by omega) (by omega)) dn)))) (kc k0 (kc k4 (kc k1 (kc k0 (kc k2 (kc k2 (kc k2 (kc k2 kn)))))))) ⟨Z,Z,Z,Z,Z,Z,Z,Z,Z,Z,Z,Z,eqI (by omega),trivial⟩
 refine jsk (jx (jex (jtx (jbh (jx (jr (js (jadd Z Z (by omega)) (jm Z (jn ?_)))))))))
 exact jag (k + 1,List.set rs2 (Int.toNat ((ix ((ix m.Blocks (Int.toNat ab)).Ins) k).D)) 0,me2,cl2 ++ [⟨(ix ((ix m.Blocks (Int.toNat ab)).Ins) k).Imm,ea⟩],an2,s2 + 1,v90,va2) ⟨by dsimp only; omega,by dsimp only; first | exact ins_callA hI (by omega) hNi h28 hja hea (by omega) | exact ins_callB hI (by omega) hNi h28 hja hea | exact ins_ok hI (by omega) hNi h28 hdo,by dsimp only; first | (rw [List.length_set,List.length_set]; exact hrl2) | (rw [List.length_set]; exact hrl2) | (rw [(stepM_len _ _ _).1]; exact hrl2),by dsimp only; first | exact hml2 | (rw [(stepM_len _ _ _).2]; exact hml2),by dsimp only; omega,by dsimp only; first | (rw [List.length_append]; simp; omega) | omega,by dsimp only; omega⟩ (dc d2 (dc d3 (dc d4 (dc d5 dn)))) (kc k0 (kc k4 (kc k1 (kc k0 (kc k2 (kc k2 (kc k2 (kc k2 kn)))))))) ⟨Z,Z,Z,Z,Z,Z,Z,Z,Z,Z,Z,Z,eqI (by omega),trivial⟩
 have h28 := hc4
 refine jsk (jx (jq (jr (js (jla k1 A24 Z24 Z Z Z) (jm Z (js (jf F37_2 Z) (js (jl k0 O29 Z Z) (jc E41 Z Z (pDoM_ct (by omega) (by omega)) (dc d0 dn) (kc k2 (kc k4 kn)) (fun _ => p0) (fun _ => p2) fun _ => jm Z (js (jex' Z Z) (js (jex' Z Z) ?_))))))))))
 refine ja Z (ja Z (jn (jx (jq (jr (jm Z (js (jnot Z) (jn (jx ?_)))))))))
 refine jif Z (fun hc7 => ?_) (fun hc7 => ?_)
 refine jq (jr (jm Z (jm Z (jc E39 Z Z (pStop_ct 2 ((stepM (ix ((ix m.Blocks (Int.toNat ab)).Ins) k) rs2 me2).1.1) w1.one w12.one) dn (kc k2 kn) (fun _ => p0) (fun _ => p1) fun _ => jsta k6 Z37 Z Z Z ⟨Z,Z,w1.one,w12.one,Z,trivial⟩ (saf Z) (jn (jx (jrt (jbr (jtr (jtr ?_))))))))))
 refine jbr (jtr (jbr (jtr (jbr (jtr (jso (qfz k6 (by omega) ?_)))))))
 exact jrcO (b := ⟨2,(stepM (ix ((ix m.Blocks (Int.toNat ab)).Ins) k) rs2 me2).1.1,(stepM (ix ((ix m.Blocks (Int.toNat ab)).Ins) k) rs2 me2).2.2,cl2,s2 + 1⟩) (mv := v24) (cv := vc2) Z Z k0 A37 Z37 (by first | exact run_wrong (by simpa using hc1) | exact ins_stop hI (by omega) hc3 | exact ins_trap hI (by omega) hc3 hc4 (by simpa using hc7) | exact end_stop hI (by omega) hc8 | exact end_ret hI (by omega) hc8 hc9 | exact end_trap hI (by omega) hc8 hc9 hc10) d0 k3
 have hdo : (stepM (ix (ix m.Blocks (Int.toNat ab)).Ins k) rs2 me2).1.2 = true := by simpa using hc7
 refine jsk (jbn (jx (jr (js (jadd Z Z (by omega)) (jm Z (jn ?_))))))
 exact jag (k + 1,(stepM (ix ((ix m.Blocks (Int.toNat ab)).Ins) k) rs2 me2).2.1,(stepM (ix ((ix m.Blocks (Int.toNat ab)).Ins) k) rs2 me2).2.2,cl2,an2,s2 + 1,vc2,va2) ⟨by dsimp only; omega,by dsimp only; first | exact ins_callA hI (by omega) hNi h28 hja hea (by omega) | exact ins_callB hI (by omega) hNi h28 hja hea | exact ins_ok hI (by omega) hNi h28 hdo,by dsimp only; first | (rw [List.length_set,List.length_set]; exact hrl2) | (rw [List.length_set]; exact hrl2) | (rw [(stepM_len _ _ _).1]; exact hrl2),by dsimp only; first | exact hml2 | (rw [(stepM_len _ _ _).2]; exact hml2),by dsimp only; omega,by dsimp only; first | (rw [List.length_append]; simp; omega) | omega,by dsimp only; omega⟩ (dc d1 (dc d2 (dc d3 (dc d4 dn)))) (kc k0 (kc k3 (kc k3 (kc k1 (kc k0 (kc k1 (kc k1 (kc k1 kn)))))))) ⟨Z,Z,Z,Z,Z,Z,Z,Z,Z,Z,Z,Z,eqI (by omega),trivial⟩
 refine jex (jtx (jtx (jbh (jx (jq (jq (jr (js (jf F37_4 Z) (js (jl k3 O3 Z Z) (js (jf F31_3 Z) (js (jl k6 O3 Z Z) ?_)))))))))))
 refine js (jgeq Z Z) (jn (jx ?_))
 refine jif Z (fun hc8 => ?_) (fun hc8 => ?_)
 refine jex (jtx (jbo (jtx (jbh (jx (jq (jr (jm Z (jc E39 Z Z (pStop_ct 3 0 w1.one w12.one) dn (kc k3 kn) (fun _ => p0) (fun _ => p1) fun _ => jsta k5 Z37 Z Z Z ⟨Z,Z,w1.one,w12.one,Z,trivial⟩ (saf Z) (jn ?_))))))))))
 refine jx (jrt (jso (qfz k4 (by omega) ?_)))
 exact jrcO (b := ⟨3,0,me2,cl2,s2⟩) (mv := v24) (cv := vc2) Z Z k0 A37 Z37 (by first | exact run_wrong (by simpa using hc1) | exact ins_stop hI (by omega) hc3 | exact ins_trap hI (by omega) hc3 hc4 (by simpa using hc7) | exact end_stop hI (by omega) hc8 | exact end_ret hI (by omega) hc8 hc9 | exact end_trap hI (by omega) hc8 hc9 hc10) d0 k4
 have hNe := hc8
 refine jsk (jx (jq (jr (js (jf F37_4 Z) (js (jl k3 O3 Z Z) (js (jadd Z Z (by omega)) (js (jf F37_4 Z) (jst k3 Z3 Z Z Z s4 (jn (jx (jq ?_)))))))))))
 refine jq (jr (js (jf F95_2 Z) (js (jf F88_0 Z) (js (jl k2 O3 Z Z) (jn (jx (jb (jq (jr (js (jeql Z Z) (ja Z ?_)))))))))))
 refine jn (jx ?_)
 refine jif Z (fun hc9 => ?_) (fun hc9 => ?_)
 refine jq (jr (jm Z (jm Z (js (jf F95_2 Z) (js (jf F88_1 Z) (js (jl k2 O3 Z Z) (jc E42 Z Z (Tv.temp 1073741824 (pGet_ct (((ix m.Blocks (Int.toNat ab)).End).A)) (by omega)) dn (kc k1 kn) (fun _ => p0) (fun _ => p1) fun _ => jc E39 Z Z (pStop_ct 1 (getM rs2 (((ix m.Blocks (Int.toNat ab)).End).A)) w1.one w12.one) dn (kc k1 kn) (fun _ => p0) (fun _ => p1) fun _ => jsta k5 Z37 Z Z Z ⟨Z,Z,w1.one,w12.one,Z,trivial⟩ (saf Z) (jn (jx ?_)))))))))
 refine jrt (jbr (jtr (jbr (jtr (jbr (jtr (jso (qfz k4 (by omega) ?_))))))))
 exact jrcO (b := ⟨1,getM rs2 (((ix m.Blocks (Int.toNat ab)).End).A),me2,cl2,s2 + 1⟩) (mv := v24) (cv := vc2) Z Z k0 A37 Z37 (by first | exact run_wrong (by simpa using hc1) | exact ins_stop hI (by omega) hc3 | exact ins_trap hI (by omega) hc3 hc4 (by simpa using hc7) | exact end_stop hI (by omega) hc8 | exact end_ret hI (by omega) hc8 hc9 | exact end_trap hI (by omega) hc8 hc9 hc10) d0 k4
 have h7 := hc9
 refine jq (jr (js (jeql Z Z) (ja Z (jn (jx ?_)))))
 refine jif Z (fun hc10 => ?_) (fun hc10 => ?_)
 refine jq (jr (jm Z (js (jf F95_2 Z) (js (jf F88_4 Z) (js (jl k2 O21 Z Z) (jc E39 Z Z (pStop_ct 2 (((ix m.Blocks (Int.toNat ab)).End).Imm) w1.one w12.one) dn (kc k0 kn) (fun _ => p0) (fun _ => p1) fun _ => jsta k5 Z37 Z Z Z ⟨Z,Z,w1.one,w12.one,Z,trivial⟩ (saf Z) (jn (jx (jrt (jbr ?_))))))))))
 refine jtr (jbr (jtr (jbr (jtr (jso (qfz k4 (by omega) ?_))))))
 exact jrcO (b := ⟨2,((ix m.Blocks (Int.toNat ab)).End).Imm,me2,cl2,s2 + 1⟩) (mv := v24) (cv := vc2) Z Z k0 A37 Z37 (by first | exact run_wrong (by simpa using hc1) | exact ins_stop hI (by omega) hc3 | exact ins_trap hI (by omega) hc3 hc4 (by simpa using hc7) | exact end_stop hI (by omega) hc8 | exact end_ret hI (by omega) hc8 hc9 | exact end_trap hI (by omega) hc8 hc9 hc10) d0 k4
 have h8 := hc10
 have htm := ix_mem (l := (ix m.Blocks (Int.toNat ab)).End.To) (i := Int.toNat (goesM (ix m.Blocks (Int.toNat ab)).End rs2)) (by have := hW.goes hat rs2 hc9 hc10; omega)
 refine jsk (jbn (jx (jany false (.a 0 (.a 1 (.a 2 (.a 3 (.a 4 (.a 5 (.a 6 (.o 7 (.a 8 (.a 9 (.a 10 (.a 11 .e)))))))))))) Mixed (by kernel_rfl) (kc k2 kn) fun F33 => jy Z (jmv Z) (jy Z (jf F95_2 Z) (jy Z (jf F88_3 Z) (jy Z (jl k0 O22 Z Z) (jy Z (jf F95_2 Z) (jy Z (jla k0 A88 Z88 Z Z Z) (jy Z (jmv Z) (jyo Z ?_))))))))))
 refine jc E43 Z Z (Tv.temp1 1073741824 pGoes_ct (by omega)) (dc (rMBlock.P_End d1) dn) (kc k1 kn) (fun _ => p0) (fun _ => p1) fun _ => jyn d0 (kc k2 kn) ?_
 have hgo : 0 ≤ goesM ((ix m.Blocks (Int.toNat ab)).End) rs2 ∧ goesM ((ix m.Blocks (Int.toNat ab)).End) rs2 < (ix m.Blocks (Int.toNat ab)).End.To.length := hW.goes hat rs2 hc9 hc10
 refine jy Z (jix (i := (Int.toNat (goesM ((ix m.Blocks (Int.toNat ab)).End) rs2))) U22 Z3 (rMBlock.cT d0) Z Z (by omega) (by omega)) (jy Z (jlI (dix (rMBlock.cT d0) (Int.toNat (goesM ((ix m.Blocks (Int.toNat ab)).End) rs2)) (by omega)) O3 Z) (jy Z (jas Z) (jy Z (jas Z) (jyd (jbn ?_)))))
 exact jag (f - 1,ix (((ix m.Blocks (Int.toNat ab)).End).To) (Int.toNat (goesM ((ix m.Blocks (Int.toNat ab)).End) rs2)),ab,rs2,me2,cl2,an2,s2 + 1,vc2,va2) ⟨by dsimp only; omega,end_go hI (by omega) hNe h7 h8,by dsimp only; exact (hW.from1 hat htm).1,by dsimp only; exact (hW.from1 hat htm).2,hrl2,hml2,by dsimp only; omega,by dsimp only; omega,by dsimp only; omega,by dsimp only; omega⟩ (dc d2 (dc d3 (dc d4 dn))) (kc k3 (kd (kc k1 (kc k1 (kc k1 (kc k1 kn)))))) ⟨Z,Z,Z,Z,Z,Z,Z,Z,Z,trivial⟩
theorem kindO1_ct {a0 : Value} {i : D.Mach} : Tg Tryz.prog 89 #[vMach i a0] [da rMach (vMach i a0) i] [] (rI .i64) 3 (km1 i) := by
 refine jenter (args := [vMach i a0]) Tryz.func89 rfl rfl rfl fun w0 X => ?_
 refine jq (jr (jbox Z Z fun g1 => ja Z (jn (jx (jq (jr (ja Z (jn (jx (jrt ?_))))))))))
 refine qnl (r := (rI .i64)) (E := 3) ?_
 exact jrG Z Z (by rfl) k0
theorem kindO3_ct {a0 : Value} {i : D.Mach} : Tg Tryz.prog 91 #[vMach i a0] [da rMach (vMach i a0) i] [] (rI .i64) 3 (km3 i) := by
 refine jenter (args := [vMach i a0]) Tryz.func91 rfl rfl rfl fun w0 X => ?_
 refine jq (jr (jbox Z Z fun g1 => ja Z (jn (jx (jq (jr (js (jf F24_3 Z) (js (jl k0 O3 Z Z) (jlit (r := (rI .i64)) (l := [i.A]) U22 I3 (by decide) Z Z Z (lV Z Z (wI (rMach.W_A d0)) ln) fun g5 => ja Z ?_)))))))))
 refine jn (jx (jrt ?_))
 exact jrG Z Z (by rfl) k0
theorem kindO4_ct {a0 : Value} {i : D.Mach} : Tg Tryz.prog 92 #[vMach i a0] [da rMach (vMach i a0) i] [] (rI .i64) 3 (km4 i) := by
 refine jenter (args := [vMach i a0]) Tryz.func92 rfl rfl rfl fun w0 X => ?_
 refine jq (jr (jbox Z Z fun g1 => ja Z (jn (jx (jq (jr (js (jf F24_3 Z) (js (jl k0 O3 Z Z) (js (jf F24_4 Z) (js (jl k0 O3 Z Z) ?_))))))))))
 refine jlit (r := (rI .i64)) (l := [i.A,i.B]) U22 I3 (by decide) Z Z Z (lV Z Z (wI (rMach.W_A d0)) (lV Z Z (wI (rMach.W_B d0)) ln)) fun g7 => ja Z (jn (jx (jrt ?_)))
 exact jrG Z Z (by rfl) k0
theorem kindO5_ct {a0 : Value} {i : D.Mach} : Tg Tryz.prog 93 #[vMach i a0] [da rMach (vMach i a0) i] [] (rI .i64) 3 (km5 i) := by
 refine jenter (args := [vMach i a0]) Tryz.func93 rfl rfl rfl fun w0 X => ?_
 refine jq (jr (jbox Z Z fun g1 => ja Z (jn (jx (jq (jr (js (jf F24_3 Z) (js (jl k0 O3 Z Z) (js (jf F24_4 Z) (js (jl k0 O3 Z Z) ?_))))))))))
 refine js (jf F24_5 Z) (js (jl k0 O3 Z Z) (jlit (r := (rI .i64)) (l := [i.A,i.B,i.C]) U22 I3 (by decide) Z Z Z (lV Z Z (wI (rMach.W_A d0)) (lV Z Z (wI (rMach.W_B d0)) (lV Z Z (wI (rMach.W_C d0)) ln))) fun g9 => ja Z (jn (jx (jrt ?_)))))
 exact jrG Z Z (by rfl) k0
theorem kindO6_ct {a0 : Value} {i : D.Mach} : Tg Tryz.prog 94 #[vMach i a0] [da rMach (vMach i a0) i] [] (rI .i64) 3 (km6 i) := by
 refine jenter (args := [vMach i a0]) Tryz.func94 rfl rfl rfl fun w0 X => ?_
 refine jq (jr (jbox Z Z fun g1 => ja Z (jn (jx (jq (jr (js (jf F24_7 Z) (js (jl k0 O22 Z Z) (jdq (rMach.c_Args d0) fun q1 w1 => jcg E95 Z Z clone_ct (dc (rMach.c_Args d0) dn) kn fun v5 w2 => ?_)))))))))
 refine ja Z (jn (jx (jrt ?_)))
 exact jrG Z Z (by rfl) k0
theorem takesO_ct {a0 : Value} {i : D.Mach} : Tg Tryz.prog (takesF i.Op) #[vMach i a0] [da rMach (vMach i a0) i] [] (rI .i64) 3 (takesM i) := by
 unfold takesF takesM
 (repeat' split) <;> first | (exfalso; omega) | exact kindO3_ct | exact kindO4_ct | exact kindO5_ct | exact kindO6_ct | exact kindO1_ct
theorem pTakesO_ct {a0 : Value} {i : D.Mach} : Tg Tryz.prog 14 #[vMach i a0] [da rMach (vMach i a0) i] [] (rI .i64) 3 (takesM i) := by
 refine jenter (args := [vMach i a0]) Tryz.func14 rfl rfl rfl fun w0 X => ?_
 refine jq (jr (jbox Z Z fun g1 => ja Z (jn (jx (jq (jany false (.a 0 (.a 1 (.a 4 (.o 2 (.a 3 (.o 5 (.a 6 .e))))))) Mixed (by kernel_rfl) (kc k0 kn) fun F1 => jy Z (jf F24_0 Z) (jy Z (jl k0 O3 Z Z) (jy Z (jla k0 A24 Z24 Z Z Z) (jyo Z ?_)))))))))
 refine jcv E44 Z Z (kindV_ct i.Op) dn kn (jyn d0 (kc k0 kn) (jy Z (jfo G102_0 O40 Z Z) (jyo Z (jcg (ent_takesF _) Z Z takesO_ct (dc d2 dn) kn fun v8 w8 => jyn d0 (kc k1 kn) (jy Z (jas Z) (jyd (jx (jrt ?_))))))))
 exact jrG Z Z (by rfl) k0
theorem E45 : Ent Tryz.prog 45 := ⟨_,Tryz.func45,by kernel_rfl,by kernel_rfl⟩
def few9M (i : D.Mach) : D.Mach := { i with Args := i.Args.take 7 }
theorem lawFew_ct {a0 : Value} {i : D.Mach} {N0 : Nat} : Ts Tryz.prog 13 #[vMach i a0] [da (rMachN N0) (vMach i a0) i] [] rMach vMach (few9M i) := by
 refine jenter (args := [vMach i a0]) Tryz.func13 rfl rfl rfl fun w0 X => ?_
 refine jq (jr (jbox Z Z fun g1 => jalc J24 Z fun g2 => jn (jx (jq (jr (jlit (r := (rI .i64)) (l := []) U22 I3 (by decide) Z Z Z ln fun g3 => js (jf F24_7 Z) (js (jl k2 O22 Z Z) (js (jf F24_7 Z) ?_))))))))
 refine js (jl k2 O22 Z Z) (jdq (rMach.c_Args d0) fun q1 w1 => js (jln U22 (rMach.c_Args d0) Z) (js (jmin Z Z) (js (jshi (hi := (Int.toNat (min (↑(List.length i.Args)) 7))) U22 Z3 (rMach.c_Args d0) Z Z (by omega) (by omega)) (jdq (dhi (rMach.c_Args d0) (Int.toNat (min (↑(List.length i.Args)) 7)) (by omega) (by omega)) fun q2 w2 => japlz U22 I3 (by decide) Z k0 Z Z (dhi (rMach.c_Args d0) (Int.toNat (min (↑(List.length i.Args)) 7)) (by omega) (by omega)) (by (try simp) <;> omega) fun v11 w3 => js (jf F24_7 Z) (jst k2 Z22 Z Z w3.one s7 (jn (jx (jq ?_))))))))
 refine jr (js (jla k0 A24 Z24 Z Z Z) (jsta k2 Z24 Z Z Z ⟨Z,Z,Z,Z,Z,Z,Z,w3.one,trivial⟩ (saf Z) (jn (jx (jrt (qfz k2 (by (try simp) <;> omega) ?_))))))
 exact jrcA (val := vMach) (b := ⟨i.Op,i.D,i.E,i.A,i.B,i.C,i.Imm,List.take (Int.toNat (min (↑(List.length i.Args)) 7)) i.Args⟩) (c := v11) Z Z k0 A24 Z24 Z (by rw [← take_min i.Args 7 7 rfl]; rfl) (rMach.M (m := ⟨i.Op,i.D,i.E,i.A,i.B,i.C,i.Imm,List.take (Int.toNat (min (↑(List.length i.Args)) 7)) i.Args⟩) (c := v11) d0 (rMach.W_Op (m := i) d1) (rMach.W_D (m := i) d1) (rMach.W_E (m := i) d1) (rMach.W_A (m := i) d1) (rMach.W_B (m := i) d1) (rMach.W_C (m := i) d1) (rMach.W_Imm (m := i) d1))
theorem lawSome_ct {a0 : Value} {l : List Int} {N0 : Nat} : Td Tryz.prog 11 #[a0] [dv (rLn N0 (rI .i32)) a0 l] [] (rL (rI .i32)) ((List.take 20) l) := by
 refine jenter (args := [a0]) Tryz.func11 rfl rfl rfl fun w0 X => ?_
 refine jq (jr (ja Z (jn (jx (jq (jr (jlit (r := (rI .i32)) (l := []) U29 I21 (by decide) Z Z Z ln fun g3 => jm Z (jm Z (jdq d0 fun q1 w1 => js (jln U29 d0 Z) ?_)))))))))
 refine js (jmin Z Z) (js (jshi (hi := (Int.toNat (min (↑(List.length l)) 20))) U29 Z21 d0 Z Z (by omega) (by omega)) (jdq (dhi d0 (Int.toNat (min (↑(List.length l)) 20)) (by omega) (by omega)) fun q2 w2 => japlz U29 I21 (by decide) Z k0 Z Z (dhi d0 (Int.toNat (min (↑(List.length l)) 20)) (by omega) (by omega)) (by (try simp) <;> omega) fun v9 w3 => ja Z (jn (jx (jrt (qfz k0 (by (try simp) <;> omega) ?_))))))
 exact jrD Z Z (take_min l 20 20 rfl) d0
theorem lawRow_ct {a0 : Value} {a : List Int} {a1 : Value} {b : List Int} : Tv Tryz.prog 18 #[a0,a1] [dv (rL (rI .i64)) a0 a,dv (rL (rI .i64)) a1 b] [] (.bool (rowsM a b)) := by
 refine jenter (args := [a0,a1]) Tryz.func18 rfl rfl rfl fun w0 X => ?_
 refine jq (jr (ja Z (jn (jx (jq (jq (jr (jm Z (jdq d0 fun q1 w1 => js (jln U22 d0 Z) (jm Z ?_))))))))))
 refine jdq d1 fun q2 w2 => js (jln U22 d1 Z) (js (jneq Z Z) (jn (jx ?_)))
 refine jif Z (fun hc1 => ?_) (fun hc1 => ?_)
 refine jq (jr (ja Z (jn (jx (jrt (jtr ?_))))))
 exact jrB Z Z (rowsM_len (by omega))
 refine jsk (jx (jq (jq (jr (ja Z (jn (jx (jb ?_))))))))
 refine jlp (fun (k : Nat) => ⟨k ≤ a.length ∧ a.take k = b.take k,[dv (rL (rI .i64)) a0 a,dv (rL (rI .i64)) a1 b],[],[(0,a0),(1,a1),(5,.int .i64 (↑k))],a.length - k⟩) 0 ⟨by omega,rfl⟩ (dc d0 (dc d1 dn)) kn ⟨Z,Z,eqI (by omega),trivial⟩ ?_
 rintro k; dsimp only; rintro ⟨hk,hR⟩
 refine jq (jq (jr (jm Z (jm Z (js (jln U22 d0 Z) (js (jlss Z Z) (jn (jx ?_))))))))
 refine jif Z (fun hc2 => ?_) (fun hc2 => ?_)
 refine jsk (jx (jq (jb (jq (jstl Mixed (by kernel_rfl) (jt (jmv Z) (jt (jmv Z) (jt (jix U22 Z3 d0 Z Z Z (by omega)) (jt (jlI (dix d0 k (by omega)) O3 Z) (jt (jmv Z) (jt (jmv Z) ?_)))))))))))
 refine jt (jix U22 Z3 d1 Z Z Z (by omega)) (jt (jlI (dix d1 k (by omega)) O3 Z) (jt (jneq Z Z) (jdn (jx ?_))))
 refine jif Z (fun hc3 => ?_) (fun hc3 => ?_)
 refine jq (jr (ja Z (jn (jx (jrt (jbr (jtr (jtr (jbr (jtr ?_))))))))))
 exact jrB Z Z (by first | exact rowsM_at (k := k) (by omega) (by omega) hc3 | exact rowsM_yes (k := k) (by omega) (by omega) hR)
 refine jsk (jbn (jx (jr (jm Z (js (jadd Z Z (by omega)) (ja Z (jn ?_)))))))
 exact jag (k + 1) ⟨by omega,by rw [take_ix (by omega),take_ix (by omega),hR,hc3]⟩ (dc d0 (dc d1 dn)) kn ⟨Z,Z,eqI (by omega),trivial⟩
 refine jex (jtx (jtx (jbh (jx (jq (jr (ja Z (jn (jx (jrt ?_))))))))))
 exact jrB Z Z (by first | exact rowsM_at (k := k) (by omega) (by omega) hc3 | exact rowsM_yes (k := k) (by omega) (by omega) hR)
def sameT (a b : D.MFunc) : Bool := decide (funT7 a = funT7 b)
attribute [local irreducible] funT7
theorem rSame7_ct {a0 : Value} {a : D.MFunc} {a1 : Value} {b : D.MFunc} (hA : SmallF 8000 a) (hA2 : a.Blocks.length ≤ 1000) (hB : SmallF 8000 b) (hB2 : b.Blocks.length ≤ 1000) : Tv Tryz.prog 16 #[vMFunc a a0,vMFunc b a1] [da rMFunc (vMFunc a a0) a,da rMFunc (vMFunc b a1) b] [] (.bool (sameT a b)) := by
 refine jenter (args := [vMFunc a a0,vMFunc b a1]) Tryz.func16 rfl rfl rfl fun w0 X => ?_
 refine jq (jr (jbox Z Z fun g2 => jbox Z Z fun g3 => ja Z (jn (jx (jq (jany false (.a 0 (.a 2 (.o 1 (.o 3 (.a 4 (.a 5 .e)))))) Mixed (by kernel_rfl) (kd kn) fun F1 => jy Z (jla k1 A28 Z28 Z Z Z) (jy Z (jla k0 A28 Z28 Z Z Z) (jyo Z ?_))))))))
 refine jcv E45 Z Z (print7_ct hA hA2) (dc d1 dn) kn (jyn d0 (kd kn) (jyo Z (jcv E45 Z Z (print7_ct hB hB2) (dc d3 dn) kn (jyn d0 (kd kn) (jy Z (jeqlS U9 Z Z) (jy Z (jas Z) (jyd (jx (jrt ?_)))))))))
 exact jrB Z Z (by rfl)
end Go.Proofs.YtmfkkodnghambaaGreat
