/- Lemmas that the claim is made of. Conditions: each lemma names its own. -/
import Derived.Test.YtmfkkodnghambaaKH5
import Derived.OrdersIn
set_option linter.unusedSectionVars false
set_option linter.unusedSimpArgs false
set_option linter.unusedVariables false
namespace Go.JE
variable {P : Program} {n : Fs} {w0 : World} {Q : Exit → Act → World → Prop} {e : Env} {H : Heap} {X : Cx} {D Ds : List Dt} {L M Ls : List Res}
theorem no_nop (Q : Exit → Act → World → Prop) : NoP (NO Q) = NO (NoP Q) := by
 funext x a w; cases x <;> rfl
theorem opRW {ro : Option Nat} {m : Nat} {ops : Array Oper} (hd : ∀ (i : Nat) (o : Oper),ops[i]? = some o → noDefer o = true) {K K' : Act → World → Prop} (hK : ∀ a w,K a w → K' a w) {i : Nat} {a : Act} {w : World} (h : wpOp P ops (NO Q) i K a w) : wpOpIn (RW ro) m P ops (NO Q) i K' a w := by
 unfold wpOp at h
 unfold wpOpIn
 cases ho : ops[i]? with
 | none => rw [ho] at h; exact hK _ _ h
 | some o =>
   rw [ho] at h
   dsimp only at h ⊢
   split at h
   · rename_i hw
     rw [if_pos hw]
     rcases h with h | ⟨_,h⟩
     · refine ⟨fun _ _ => trivial,?_⟩
       rw [Oper.semAt_eq _ _ _ (fun c hc => by have := hd i o ho; simp [noDefer,hc] at this)]
       exact uponRW hK _ h
     · exact (NO.lets h).elim
   · rename_i hw
     rw [if_neg hw]
     exact ⟨fun _ _ => trivial,hK _ _ h⟩
theorem anyRW {ro : Option Nat} {m : Nat} {ops : Array Oper} (hd : ∀ (i : Nat) (o : Oper),ops[i]? = some o → noDefer o = true) : ∀ (fuel : Nat) (listed : Array Bool) (a : Act) (w : World),wpAny P .any ops (NO Q) fuel listed a w → wpAnyIn (RW ro) m P .any ops (NO Q) fuel listed a w
 | 0,_,_,_,h => h
 | fuel + 1,_,_,_,h => ⟨h.1,fun i hi => opRW hd (fun a w h => anyRW hd fuel _ a w h) (h.2 i hi)⟩
theorem RCF.any {id : Nat} {l : List Oper} {z : Bool} {ro : Option Nat} {m : Nat} (S : Heap → Prop) (hm : P.follows .mixedOrders = true) (hd : l.all noDefer = true) (h : AF P n w0 l.toArray (NO Q) z S l.length (Array.replicate l.length false) e H) : RCF P n w0 ro m Q e (.region id l.toArray true) H := by
 intro a w hf hw
 have h1 := h a _ hf hw.drew
 rw [no_nop] at h1
 have hd' : ∀ (i : Nat) (o : Oper),l.toArray[i]? = some o → noDefer o = true := fun i o ho => List.all_eq_true.1 hd o (List.mem_of_getElem? (by simpa using ho))
 refine wpIn_mono (wpIn_region_any hm (anyRW hd' _ _ _ _ (AnyL.any (z := z) (S := fun w => S w.heap) _ _ _ _ ?_))) (fun x a w h => NoP.imp _ _ _ (NO.imp _ _ _ h))
 simpa using h1
def RCH (P : Program) (n : Fs) (w0 : World) (ro : Option Nat) (m : Nat) (Q : Exit → Act → World → Prop) (X : Cx) (D : List Dt) (L : List Res) (e : Env) (c : Code) : Prop := ∀ F H,Hp X D L F H → RCF P n w0 ro m Q e c H
section
variable {ro : Option Nat} {m : Nat} {x y : Code} {id : Nat} {l : List Oper}
theorem rany (z : Bool) (is : Od) (hm : P.follows .mixedOrders = true) (hO : (okO l.toArray z (Array.replicate l.length false) is && (Region.noSelect l.toArray && decide (l.length = is.sz))) = true) (hk : Tks L Ls M) (hd : l.all noDefer = true)
   (h : ∀ FS,AH P n w0 l (NO Q) z X FS D Ls is D L e) : RCH P n w0 ro m Q X D L e (.region id l.toArray true) := fun F H hp => by
 simp only [Bool.and_eq_true,decide_eq_true_eq] at hO
 refine RCF.any (z := z) (SS X F Ls) hm hd ?_
 have := h F F H (PH.le.refl F) hp.hd hp (.inl ⟨F,PH.le.refl F,hp.sub dn hk⟩) hO.2.1 _ hO.1
 rw [hO.2.2] at this ⊢
 exact this
theorem rb (h : RCH P n w0 ro m (Exit.inBlock id Q) X D L e x) : RCH P n w0 ro m Q X D L e (.block id x) := fun F H hp => RCF.block (h F H hp)
end
def Kq (Ow : Heap → Nat → Prop) (A B : Heap) : Prop := A.size ≤ B.size ∧ (∀ k o,A[k]? = some o → o.isCells = true → ¬ Ow A k → B[k]? = some o) ∧ ∀ k,Ow B k → Ow A k ∨ A.size ≤ k
theorem Kq.trans {Ow : Heap → Nat → Prop} {A B C : Heap} (h : Kq Ow A B) (h2 : Kq Ow B C) : Kq Ow A C := by
 refine ⟨Nat.le_trans h.1 h2.1,fun k o hk hc ho => ?_,fun k hk => ?_⟩
 · have hlt := (Array.getElem?_eq_some_iff.1 hk).1
   refine h2.2.1 k o (h.2.1 k o hk hc ho) hc fun h9 => ?_
   rcases h.2.2 k h9 with h8 | h8
   · exact ho h8
   · omega
 · rcases h2.2.2 k hk with h9 | h9
   · exact h.2.2 k h9
   · exact .inr (Nat.le_trans h.1 h9)
def IterQ {α : Type} (P : Program) (g : Nat) (lb : Array Value) (encs : α → Array Value) (Ow : Heap → Nat → Prop) (xs : List α) (H : Heap) : Prop :=
 ∀ w0 : World,w0.heap = H → SeqStopsK (RW none) 2 P g lb encs (fun W W' => Kq Ow W.heap W'.heap) (fun ys => ys = xs) (fun _ => True) xs.length w0
def RQ3 {σ : Type} (w0 : World) (X2 : Cx) (J : σ → Prop) (L : σ → List Res) : Exit → Act → World → Prop
 | .normal,_,w => Wd w0 w.heap w ∧ ∃ s F,J s ∧ Hp X2 [] (L s) F w.heap
 | _,_,_ => False
theorem rend {σ : Type} {X2 : Cx} {J : σ → Prop} {Lf : σ → List Res} (s : σ) (hJ : J s) (hk : Tks L (Lf s) []) : QH n w0 (RQ3 w0 X2 J Lf) X2 D L e .normal := fun F H hp a w hf hw => by
 refine ⟨⟨rfl,hw.os,hw.tape,hw.output⟩,s,F,hJ,?_⟩
 rw [hw.heap]
 obtain ⟨o1,_,_⟩ := hk.ok hp.ok
 exact ⟨hp.hx,hp.hin,hp.hw,trivial,o1,fun k h => hp.ge k (hk.own (.inl h))⟩
theorem Hp.cg {F : PH} {H0 H1 H2 : Heap} (h : Hp X D L F H1) (hF : InH F H0) (hs : X.H.size ≤ H0.size) (hc : ∀ k,Own L k → ∃ o,H1[k]? = some o ∧ o.isCells = true) (c : Cg H0.size H1 H2) : Hp X D L F H2 :=
 ⟨h.hx,h.hin.cg hF c,h.hw.cg hs c,h.hd,h.ok.st (PH.le.refl F) c.1 (fun k hk => h.ok.no hk) (fun k hk => by obtain ⟨o,h1,h2⟩ := hc k hk; rw [h1,c.2 k o h1 (.inr h2)]),h.ge⟩
theorem CH.rangeFunc {α σ : Type} {g : Operand} {ps : List Nat} {assign body : Code} {gf go : Nat} {lb : Array Value} {encs : α → List Value} {xs : List α} (envx : α → Env)
   (Lf : σ → List Res) (Ow : Heap → Nat → Prop) (inv : List α → σ → Prop) (s0 : σ) (hg : ev e g = some (.func (.func gf) #[] lb)) (hE : Ent P gf) (hlen : ∀ x,(encs x).length = ps.length)
   (hps : ps.all (fun p => Nat.blt p n.sz) = true)
   (hOw : ∀ pre s F A,inv pre s → Ok F A (Lf s) → ∀ k,Own (Lf s) k ↔ Ow A k) (hOc : ∀ pre s F A,inv pre s → Ok F A (Lf s) → ∀ k,Own (Lf s) k → ∃ o,A[k]? = some o ∧ o.isCells = true) (hOd : ∀ pre s F G A,inv pre s → F.le G → Ok G A (Lf s) → Ok F A (Lf s)) (hOg : ∀ A B : Heap,B[go]? = A[go]? → ∀ k,Ow B k → Ow A k)
   (hit : ∀ F H,Hp X D (Lf s0) F H → IterQ P gf lb (fun x => (encs x).toArray) Ow xs H ∧ go < H.size) (h0 : inv [] s0)
   (hassign : ∀ (l : Nat) (x : α) (H' : Heap),RCF P ⟨n.sz,[]⟩ w0 (some l) 1 (AQ ⟨n.sz,[]⟩ w0 (envx x) H') (laid e ps (encs x)) assign H')
   (hbody : ∀ (l : Nat) (pre : List α) (x : α) (s : σ) (X2 : Cx),inv pre s → pre.length < xs.length → RCH P ⟨n.sz,[]⟩ w0 (some l) 1 (RQ3 w0 X2 (inv (pre ++ [x])) Lf) X2 D (Lf s) (envx x) body)
   (hdone : ∀ (M9 : Nat) (s : σ) (F : PH) (H H' : Heap),inv xs s → InH F H → H.size ≤ M9 → X.H.size ≤ M9 → Hp X D (Lf s) F H' → Mk H' M9 → PF (n.mark M9) w0 Q e .normal H') :
   CH P n w0 Q X D (Lf s0) e (.rangeFunc g ps.toArray assign body) := by
 intro F0 H hp
 obtain ⟨hit,hgo⟩ := hit F0 H hp
 refine RCF.out (m := 3) fun a w hf hw => ?_
 have hw' := hw.heap
 have hB : w.heap.size = H.size := by rw [hw']
 have hsX : X.H.size ≤ H.size := hp.hw.1
 refine wpIn_rangeFunc_ownH (α := α) (F := RW none) (n := 3) (gf := gf) (lb := lb) (encs := fun x => (encs x).toArray) (Kp := fun W W' => Kq Ow W.heap W'.heap) (S := fun ys => ys = xs) (Sp := fun _ => True) (N := xs.length) (w0 := w)
   rfl (by decide) (hf.ev hg) trivial (fun args w => hE.run args w) (hit w hw') (fun h1 h2 => h1.trans h2)
   (fun W l o o' hl ho hc _ => ?putobj) (RowKit.Below.refl _ _) (fun x => by simp [hlen])
   (fun pre W => Wd w0 W.heap W ∧ H.size ≤ W.heap.size ∧ ∃ s,inv pre s ∧ Hp X D (Lf s) F0 W.heap) (fun _ _ _ => False) ?own (fun _ _ _ _ _ h _ _ => h) ⟨⟨rfl,hw.os,hw.tape,hw.output⟩,by omega,s0,h0,by rw [hw']; exact hp⟩
   (fun x a' _ => Fr ⟨n.sz,[]⟩ (envx x) a') (fun _ _ _ _ _ _ h _ _ => h) ?assign ?body ?done ?stop
 case putobj =>
   have hne : ∀ k,k ≠ l → (W.putObj l o').heap[k]? = W.heap[k]? := fun k hk => World.putObj_heap_other hk
   refine ⟨by simp [World.putObj],fun k o2 hk hc2 _ => ?_,fun k hk => .inl (hOg _ _ (hne go (by omega)) k hk)⟩
   rw [hne k (fun e1 => by subst e1; rw [ho] at hk; injection hk with hk; subst hk; rw [hc] at hc2; cases hc2)]; exact hk
 case own =>
   rintro pre W W' row ⟨h1,h2,s,h3,h4⟩ hg' hr
   refine ⟨⟨rfl,hg'.os.trans h1.os,hg'.tape.trans h1.tape,hg'.output.trans h1.output⟩,Nat.le_trans h2 hg'.size,s,h3,h4.cg hp.hin hsX (hOc pre s F0 _ h3 h4.ok) ⟨hg'.size,fun k o hk hc => ?_⟩⟩
   refine (hg'.block k (Array.getElem?_eq_some_iff.1 hk).1 (fun e1 => ?_)).trans hk
   obtain ⟨h5,o',h6,h7⟩ := hr k e1.symm
   rcases hc with hc | hc
   · omega
   · rw [hk] at h6; injection h6 with h6; subst h6; rw [hc] at h7; cases h7
 case assign =>
   rintro l pre x W K ⟨h1,h2,h3⟩ hK
   have hfr : Fr ⟨n.sz,[]⟩ (laid e ps (encs x)) { tmps := (ps.toArray.zip (encs x).toArray).foldl (fun t p => t.setIfInBounds p.1 p.2) a.tmps,defers := [] } := by
     have := laid_fr ps (encs x) e a.tmps hps ⟨hf.size,rfl,hf.get⟩
     simpa using this
   refine wpIn_mono (hassign l x W.heap _ W hfr h1) ?_
   intro z a' W' hz
   cases z with
   | normal =>
     obtain ⟨h4,h5⟩ := hz
     have h6 : W'.heap = W.heap := h5.heap
     refine hK a' W' ⟨by rw [h6]; exact Nat.le_refl _,fun k o _ hk _ => by rw [h6]; exact hk⟩ ?_ ⟨⟨rfl,h5.os,h5.tape,h5.output⟩,by rw [h6]; exact h2,by rw [h6]; exact h3⟩ h4
     show Kq Ow W.heap W'.heap
     rw [h6]
     exact ⟨Nat.le_refl _,fun _ _ h _ _ => h,fun _ h => .inl h⟩
   | _ => exact hz
 case body =>
   rintro l pre x a' W _ _ ⟨h1,h2,s,h3,h4⟩ hfr hlt
   have hp2 : Hp ⟨Own (Lf s),W.heap,F0⟩ D (Lf s) F0 W.heap := ⟨PH.ext.refl F0,h4.hin,Kw.refl _ _,h4.hd,h4.ok,fun k hk => .inr hk⟩
   refine wpIn_mono (hbody l pre x s ⟨Own (Lf s),W.heap,F0⟩ h3 hlt F0 W.heap hp2 a' W hfr h1) ?_
   intro z a2 W' hz
   cases z with
   | normal =>
     obtain ⟨h5,s',F',h6,h7⟩ := hz
     have hle : F0.le F' := h7.hx.1
     have hkw : Kw (Own (Lf s)) W.heap W'.heap := h7.hw
     have ho' : Ok F0 W'.heap (Lf s') := hOd _ s' F0 F' _ h6 hle h7.ok
     have hown := hOw _ s F0 W.heap h3 h4.ok
     have hown' := hOw _ s' F0 W'.heap h6 ho'
     refine ⟨⟨hkw.1,fun k o hk ho hc => ?_⟩,⟨hkw.1,fun k o hk hc hno => ?_,fun k hk => ?_⟩,h5,Nat.le_trans h2 hkw.1,s',h6,?_⟩
     · refine (hkw.2 k (Array.getElem?_eq_some_iff.1 ho).1 fun h9 => ?_).trans ho
       obtain ⟨o2,h8,h10⟩ := hOc _ s F0 _ h3 h4.ok k h9
       rw [ho] at h8; injection h8 with h8; subst h8; rw [hc] at h10; cases h10
     · exact (hkw.2 k (Array.getElem?_eq_some_iff.1 hk).1 fun h9 => hno ((hown k).1 h9)).trans hk
     · rcases h7.ge k ((hown' k).2 hk) with h9 | h9
       · exact .inr h9
       · exact .inl ((hown k).1 h9)
     · refine ⟨h4.hx,fun k o hk => h7.hin k o (hle k o hk),h4.hw.kw hkw fun k hk1 hk2 => (h4.ge k hk2).resolve_left (by omega),h4.hd,ho',fun k hk => ?_⟩
       rcases h7.ge k hk with h9 | h9
       · exact .inl (Nat.le_trans h4.hw.1 h9)
       · exact h4.ge k h9
   | _ => exact hz.elim
 case done =>
   rintro M9 ys W hD rfl ⟨h1,h2,s,h3,h4⟩ hK
   exact hdone M9 s F0 H W.heap h3 hp.hin (by omega) (by omega) h4 hK _ W ⟨hf.size,by simp [hf.defers],hf.get⟩ h1
 case stop =>
   rintro M9 c pre W _ _ h _
   exact h.elim
end Go.JE
namespace Go.JE
variable {P : Program} {n : Fs} {Q : Exit → Act → World → Prop} {e : Env} {w : World} {m : Nat} {F : PH} {D : List Dt}
section
variable {ops : Array Oper} {op : Op} {d : Nat} {ty : TypeId} {pos : String} {af : Array Edge} {rest : List Oper} {v : Value}
theorem yo (hin : InH F w.heap) (hd : AllD F D) (h : OH P D [] e op v) (K : YL P n ops Q m ((d,v) :: e) rest w) (hs : Nat.blt d n.sz = true := by rfl) (hn : noDefer ⟨some d,op,ty,pos,af,none⟩ = true := by rfl) : YL P n ops Q m e (⟨some d,op,ty,pos,af,none⟩ :: rest) w := YL.step (h F _ hin hd trivial) K hs hn
theorem ye {q : Value → PH → Prop} (hin : InH F w.heap) (hd : AllD F D) (h : OE P D [] e op q) (K : ∀ v,q v F → YL P n ops Q m ((d,v) :: e) rest w) (hs : Nat.blt d n.sz = true := by rfl) (hn : noDefer ⟨some d,op,ty,pos,af,none⟩ = true := by rfl) : YL P n ops Q m e (⟨some d,op,ty,pos,af,none⟩ :: rest) w := by
 obtain ⟨v,h1,h2⟩ := h F _ hin hd trivial
 exact YL.step h1 (K v h2) hs hn
theorem YL.call {f : FuncId} {args : Array Value} {R : Value → Heap → Prop} (h : OpCall P e op w.heap f args) (hc : Ct P f args w.heap R) (K : ∀ v (w' : World),w'.os = w.os → w'.tape = w.tape → w'.output = w.output → R v w'.heap → YL P n ops Q m ((d,v) :: e) rest w') (hs : Nat.blt d n.sz = true := by rfl) (hn : noDefer ⟨some d,op,ty,pos,af,none⟩ = true := by rfl) :
   YL P n ops Q m e (⟨some d,op,ty,pos,af,none⟩ :: rest) w := by
 intro a hf
 refine wpListIn_plain rfl fun K' hK' => ⟨fun _ _ => trivial,?_⟩
 rw [Oper.semAt_eq _ _ _ (fun c hc => by simp only at hc; subst hc; cases hn),h a.eval _ w rfl (fun x u hx => hf.ev hx) rfl]
 refine ⟨fun h0 => (by simp [Fence.wide] at h0),(callsRW (hc w rfl)).mono fun x w' hx => ?_⟩
 obtain ⟨v,rfl,h1,h2,h3,h4⟩ := hx
 exact hK' _ _ (K v w' h1 h2 h3 h4 _ (hf.put hs v))
end
def PH.cl (F : PH) : PH := fun k => match F k with
 | some o => if o.isCells = true then some o else none
 | none => none
theorem PH.cl_some {F : PH} {k : Nat} {o : Obj} (h : F.cl k = some o) : F k = some o ∧ o.isCells = true := by
 unfold PH.cl at h
 split at h
 · rename_i o' h1
   split at h
   · rename_i h2; injection h with h; subst h; exact ⟨h1,h2⟩
   · cases h
 · cases h
theorem PH.cl_pc (F : PH) (b o : Nat) : pc F.cl b o = pc F b o := by
 unfold pc PH.cl
 cases h : F b with
 | none => rfl
 | some x =>
   cases x <;> simp [Obj.isCells]
theorem InH.cl {F : PH} {H : Heap} (h : InH F H) : InH F.cl H := fun k o hk => h k o (PH.cl_some hk).1
theorem rows_cl {F : PH} {v : Value} {k : IntKind} {l : List (List Int)} (h : (rL (rL (rI k))).rv F v l) : (rL (rL (rI k))).rv F.cl v l := by
 obtain ⟨h0,a,cap,h1,h2,h3,g,h4,h5⟩ := h
 refine ⟨h0,a,cap,h1,h2,h3,g,fun i hi => by rw [PH.cl_pc]; exact h4 i hi,fun i hi => ?_⟩
 obtain ⟨p0,a',cap',p1,p2,p3,g',p4,p5⟩ := h5 i hi
 exact ⟨p0,a',cap',p1,p2,p3,g',fun j hj => by rw [PH.cl_pc]; exact p4 j hj,p5⟩
structure Lie (Ow : Heap → Nat → Prop) (F : PH) (H : Heap) : Prop where
 hin : InH F H
 cel : ∀ k o,F k = some o → o.isCells = true
 no : ∀ k o,F k = some o → ¬ Ow H k
theorem Lie.kq {Ow : Heap → Nat → Prop} {F : PH} {H H' : Heap} (h : Lie Ow F H) (hk : Kq Ow H H') : Lie Ow F H' := by
 refine ⟨fun k o hF => hk.2.1 k o (h.hin k o hF) (h.cel k o hF) (h.no k o hF),h.cel,fun k o hF ho => ?_⟩
 rcases hk.2.2 k ho with h9 | h9
 · exact h.no k o hF h9
 · have := (Array.getElem?_eq_some_iff.1 (h.hin k o hF)).1; omega
end Go.JE
namespace Go.Proofs.Ytmfkkodnghambaa
open Go.JE
theorem edges_iter {F : PH} {H : Heap} {g1 go : Nat} {vg : Value} {g : List (List Int)} {Ow : Heap → Nat → Prop} (hin : InH F H) (hb : Bx H g1 109 [vg]) (hd : (rL (rL (rI .i64))).rv F vg g)
   (hOg : ∀ A B : Heap,B[go]? = A[go]? → ∀ k,Ow B k → Ow A k) (hgo : go < H.size) (hOl : ∀ k,Ow H k → k < H.size) (hOF : ∀ k,Ow H k → F k = none) :
   IterQ Try.prog 80 #[.pointer (some ⟨g1,0,none⟩)] (fun x : Ed g.length => (edEnc x).toArray) Ow (edgesX g) H := by
 rintro w0 rfl lr J Jx W hW hJ hJx hY h0
 have hkW : ∀ k,k < w0.heap.size → W.heap[k]? = w0.heap[k]? := fun k hk => hW.block k hk
 have hOW : ∀ k,Ow W.heap k → Ow w0.heap k := hOg _ _ (hkW go hgo)
 have hFin : InH F.cl W.heap := fun k o hk => by
   have h1 := hin.cl k o hk
   rw [hkW k (Array.getElem?_eq_some_iff.1 h1).1]; exact h1
 have hWsz : w0.heap.size ≤ W.heap.size := hW.size
 have hbW : Bx W.heap g1 109 [vg] := hb.of (hkW g1 hb.lt)
 have hdW := rows_cl hd
 refine YC.enter (args := [.func (.yield lr) #[] #[],.pointer (some ⟨g1,0,none⟩)]) Try.func80 rfl rfl rfl ?_
 refine YC.seq ?_
 refine YC.region ?_
 refine YL.step (OpOk.ldBx hbW O109 rfl rfl) ?_
 refine YL.call (OpCall.fnc (cs := []) E71 rfl (evl1 Z)) (clean_ct F.cl W.heap hFin ⟨hdW,trivial⟩ trivial) ?_
 rintro v8 W1 e1 e2 e3 ⟨_,F1,rfl,hr1⟩
 have hp1 := hr1 _ (Nat.le_refl _)
 have hkw1 := hp1.hw
 have hgr : W.grownBy W1 none := ⟨e1,e2,e3,hkw1.1,fun k hk _ => hkw1.2 k hk id⟩
 have hJ1 : J [] W1 := hJ _ _ _ _ h0 hgr (fun r hr => by cases hr)
 have hD : AllD F1.cl [dv (rL (rL (rI .i64))) v8 (cleanM g)] := ⟨rows_cl hp1.hd.1,trivial⟩
 have hOW1 : ∀ k,Ow W1.heap k → Ow w0.heap k := fun k hk => hOW k (hOg _ _ (hkw1.2 go (by show go < W.heap.size; omega) id) k hk)
 have hlie : Lie Ow F1.cl W1.heap := by
   refine ⟨hp1.hin.cl,fun k o hk => (PH.cl_some hk).2,fun k o hk ho => ?_⟩
   have h2 := hOW1 k ho
   have h3 := hOl k h2
   have h4 := (PH.cl_some hk).1
   rw [hp1.hx.2 k (by show k < W.heap.size; omega)] at h4
   have h5 := (PH.cl_some h4).1
   rw [hOF k h2] at h5; cases h5
 clear hr1 hp1 hkw1 hgr e1 e2 e3
 have hcl := clean_len g
 have hxl := edgesX_len (g := g)
 have hq := rL.len hD.1
 rw [hcl] at hq
 refine yo hlie.hin hD (jln U109 d0 Z) ?_
 refine YL.step (OpOk.move rfl) ?_
 refine YL.nil ?_
 refine YP.next ?_
 refine YC.block ?_
 refine YC.loop (ι := Nat) (fun k W' => k ≤ g.length ∧ J ((edgesX g).take (edgesT (cleanM g) k).length) W' ∧ Lie Ow F1.cl W'.heap)
   (fun k => [(0,.func (.yield lr) #[] #[]),(8,v8),(9,.int .i64 ((cleanM g).length : Nat)),(10,.int .i64 (k : Int))]) (fun k => g.length - k) 0 ⟨Nat.zero_le _,by simpa [edgesT] using hJ1,hlie⟩ ⟨rfl,rfl,rfl,rfl,trivial⟩ ?_
 rintro k W2 ⟨hk,hJ2,hl2⟩
 refine YC.seq ?_
 refine YC.region ?_
 refine yo hl2.hin hD (jlss Z Z) ?_
 refine YL.nil ?_
 refine YP.next ?_
 refine YC.seq ?_
 refine YC.if rfl (fun hc1 => ?_) (fun hc1 => ?_)
 · refine YC.skip ?_
   refine YP.next ?_
   refine YC.seq ?_
   refine YC.block ?_
   refine YC.seq ?_
   refine YC.region ?_
   refine YL.step (OpOk.move rfl) ?_
   refine yo hl2.hin hD (jix (i := k) U109 Z32 d0 Z Z Z (by omega)) ?_
   refine ye hl2.hin hD (jlV (dix d0 k (by omega)) O32 Z Z) fun v14 hv14 => ?_
   have hD2 : AllD F1.cl [dv (rL (rI .i64)) v14 (ix (cleanM g) k)] := ⟨hv14,trivial⟩
   refine YL.step (OpOk.assign rfl) ?_
   refine YL.step (OpOk.assign rfl) ?_
   refine YL.nil ?_
   refine YP.next ?_
   refine YC.seq ?_
   refine YC.region ?_
   refine YL.step (OpOk.move rfl) ?_
   refine yo hl2.hin hD2 (jln U32 d0 Z) ?_
   refine YL.step (OpOk.move rfl) ?_
   refine YL.nil ?_
   refine YP.next ?_
   refine YC.block ?_
   refine YC.loop (ι := Nat) (fun j W' => j ≤ (ix (cleanM g) k).length ∧ J ((edgesX g).take ((edgesT (cleanM g) k).length + j)) W' ∧ Lie Ow F1.cl W'.heap)
     (fun j => [(0,.func (.yield lr) #[] #[]),(3,.int .i64 (k : Int)),(8,v8),(9,.int .i64 ((cleanM g).length : Nat)),(10,.int .i64 (k : Int)),(15,v14),(16,.int .i64 ((ix (cleanM g) k).length : Nat)),(17,.int .i64 (j : Int))]) (fun j => (ix (cleanM g) k).length - j) 0 ⟨Nat.zero_le _,by simpa using hJ2,hl2⟩ ⟨rfl,rfl,rfl,rfl,rfl,rfl,rfl,rfl,trivial⟩ ?_
   rintro j W3 ⟨hj,hJ3,hl3⟩
   refine YC.seq ?_
   refine YC.region ?_
   refine yo hl3.hin hD2 (jlss Z Z) ?_
   refine YL.nil ?_
   refine YP.next ?_
   refine YC.seq ?_
   refine YC.if rfl (fun hc2 => ?_) (fun hc2 => ?_)
   · have hjl : j < (ix (cleanM g) k).length := by omega
     obtain ⟨hp1,hp2⟩ := edge_at (rows := cleanM g) (n := g.length) (k := k) (j := j) (by omega) hjl
     have hpx : (edgesT (cleanM g) k).length + j < (edgesX g).length := by omega
     have hxv : (edgesX g)[(edgesT (cleanM g) k).length + j].val = ((k : Int),ix (ix (cleanM g) k) j) := (edgesX_at hpx).trans (hp2 hp1)
     have hsn : (edgesX g).take ((edgesT (cleanM g) k).length + j) ++ [(edgesX g)[(edgesT (cleanM g) k).length + j]] = (edgesX g).take ((edgesT (cleanM g) k).length + (j + 1)) := (List.take_succ_eq_append_getElem hpx).symm
     refine YC.skip ?_
     refine YP.next ?_
     refine YC.seq ?_
     refine YC.block ?_
     refine YC.seq ?_
     refine YC.region ?_
     refine yo hl3.hin hD2 (jix (i := j) U32 Z3 d0 Z Z Z hjl) ?_
     refine yo hl3.hin hD2 (jlI (dix d0 j hjl) O3 Z) ?_
     refine YL.step (OpOk.assign rfl) ?_
     refine YL.nil ?_
     refine YP.next ?_
     refine YC.seq ?_
     refine YC.region ?_
     refine YL.step (OpOk.move rfl) ?_
     refine YL.step (OpOk.move rfl) ?_
     refine YL.step (OpOk.move rfl) ?_
     have hy := hY ((edgesX g).take ((edgesT (cleanM g) k).length + j)) (edgesX g)[(edgesT (cleanM g) k).length + j] W3 hJ3 (by rw [List.length_take]; omega)
     refine YL.yield (l := lr) (args := (edEnc (edgesX g)[(edgesT (cleanM g) k).length + j]).toArray) (OpYield.call rfl (show some [Value.int .i64 (k : Int),Value.int .i64 (ix (ix (cleanM g) k) j)] = some (edEnc (edgesX g)[(edgesT (cleanM g) k).length + j]) by unfold edEnc; rw [hxv])) hy ?_
     rintro z W4 (⟨rfl,hJ4,hk4⟩ | ⟨rfl,hJx4⟩)
     · rw [hsn] at hJ4
       have hl4 : Lie Ow F1.cl W4.heap := hl3.kq hk4
       refine ⟨_,rfl,?_⟩
       refine YL.step (OpOk.not rfl) ?_
       refine YL.nil ?_
       refine YP.next ?_
       refine YC.if rfl (fun hc3 => absurd hc3 (by simp)) (fun hc3 => ?_)
       refine YC.skip ?_
       refine YP.blockNormal ?_
       refine YP.next ?_
       refine YC.region ?_
       refine yo hl4.hin hD2 (jadd Z Z (by have := rL.len hv14; omega)) ?_
       refine YL.step (OpOk.move rfl) ?_
       refine YL.nil ?_
       exact YP.again (j + 1) ⟨by omega,hJ4,hl4⟩ ⟨rfl,rfl,rfl,rfl,rfl,rfl,rfl,eqI (by omega),trivial⟩ (by omega)
     · refine ⟨_,rfl,?_⟩
       refine YL.step (OpOk.not rfl) ?_
       refine YL.nil ?_
       refine YP.next ?_
       refine YC.if rfl (fun hc3 => ?_) (fun hc3 => absurd hc3 (by simp))
       refine YC.ret ?_
       repeat' first | refine YP.blockRet ?_ | refine YP.thenRet ?_
       exact YP.ret0 rfl ⟨⟨_,rfl⟩,.inr ⟨_,trivial,hJx4⟩⟩
   · have hje : j = (ix (cleanM g) k).length := by omega
     subst hje
     refine YC.exit ?_
     refine YP.thenExit ?_
     refine YP.thenExit ?_
     refine YP.blockHere ?_
     refine YP.blockNormal ?_
     refine YP.next ?_
     refine YC.region ?_
     refine YL.step (OpOk.add rfl rfl (by omega)) ?_
     refine YL.step (OpOk.move rfl) ?_
     refine YL.nil ?_
     exact YP.again (k + 1) ⟨by omega,by rw [edges_next]; exact hJ3,hl3⟩ ⟨rfl,rfl,rfl,eqI (by omega),trivial⟩ (by omega)
 · have hke : k = g.length := by omega
   subst hke
   rw [← hxl,List.take_length] at hJ2
   refine YC.exit ?_
   refine YP.thenExit ?_
   refine YP.thenExit ?_
   refine YP.blockHere ?_
   exact YP.end0 rfl ⟨⟨_,rfl⟩,.inl ⟨_,rfl,hJ2⟩⟩
end Go.Proofs.Ytmfkkodnghambaa
namespace Go.JE
variable {P : Program} {n : Fs} {w0 : World} {Q : Exit → Act → World → Prop} {e : Env} {H : Heap} {X : Cx} {D D0 : List Dt} {L L0 M N : List Res} {M9 : Nat}
def mkR (M9 : Nat) : Res where
 sat F H := Mk H M9 ∧ F M9 = none
 own k := k = M9
 lt := fun h e => e ▸ h.1.lt
 no := fun h e => e ▸ h.2
 st := fun _ _ h1 h2 h => ⟨h.1.of (h2 M9 rfl),h1 M9 rfl⟩
theorem crf {α σ : Type} {g : Operand} {ps : List Nat} {assign body : Code} {gf go : Nat} {lb : Array Value} {encs : α → List Value} {xs : List α} (envx : α → Env)
   (Lf : σ → List Res) (Ow : Heap → Nat → Prop) (inv : List α → σ → Prop) (s0 : σ) (hg : ev e g = some (.func (.func gf) #[] lb)) (hE : Ent P gf) (hlen : ∀ x,(encs x).length = ps.length)
   (hps : ps.all (fun p => Nat.blt p n.sz) = true)
   (hOw : ∀ pre s F A,inv pre s → Ok F A (Lf s) → ∀ k,Own (Lf s) k ↔ Ow A k) (hOc : ∀ pre s F A,inv pre s → Ok F A (Lf s) → ∀ k,Own (Lf s) k → ∃ o,A[k]? = some o ∧ o.isCells = true) (hOd : ∀ pre s F G A,inv pre s → F.le G → Ok G A (Lf s) → Ok F A (Lf s)) (hOg : ∀ A B : Heap,B[go]? = A[go]? → ∀ k,Ow B k → Ow A k)
   (hit : ∀ F H,InH F H → AllD F D → Ok F H (Lf s0) → IterQ P gf lb (fun x => (encs x).toArray) Ow xs H ∧ go < H.size) (h0 : inv [] s0)
   (hassign : ∀ (l : Nat) (x : α) (H' : Heap),RCF P ⟨n.sz,[]⟩ w0 (some l) 1 (AQ ⟨n.sz,[]⟩ w0 (envx x) H') (laid e ps (encs x)) assign H')
   (hbody : ∀ (l : Nat) (pre : List α) (x : α) (s : σ) (X2 : Cx),inv pre s → pre.length < xs.length → RCH P ⟨n.sz,[]⟩ w0 (some l) 1 (RQ3 w0 X2 (inv (pre ++ [x])) Lf) X2 D (Lf s) (envx x) body)
   (hdone : ∀ (M9 : Nat) (s : σ),inv xs s → X.H.size ≤ M9 → QH (n.mark M9) w0 Q X D (mkR M9 :: Lf s) e .normal) :
   CH P n w0 Q X D (Lf s0) e (.rangeFunc g ps.toArray assign body) := by
 refine CH.rangeFunc envx Lf Ow inv s0 hg hE hlen hps hOw hOc hOd hOg (fun F H hp => hit F H hp.hin hp.hd hp.ok) h0 hassign hbody (fun M9 s F H H' hi hF hM hX hp hMk => ?_)
 intro a w hf hw
 have hs := hp.hw.1
 have hFn : F M9 = none := by
   cases h : F M9 with
   | none => rfl
   | some o => have := (Array.getElem?_eq_some_iff.1 (hF M9 o h)).1; omega
 refine hdone M9 s hi hX F H' ⟨hp.hx,hp.hin,hp.hw,hp.hd,⟨⟨hMk,hFn⟩,fun k hk ho => ?_,hp.ok⟩,fun k hk => ?_⟩ a w hf hw
 · have hk' : k = M9 := hk
   subst hk'
   obtain ⟨o,h1,h2⟩ := hOc _ s F H' hi hp.ok k ho
   unfold Mk at hMk
   rw [hMk] at h1; injection h1 with h1; subst h1; cases h2
 · rcases hk with hk | hk
   · have hk' : k = M9 := hk
     subst hk'; exact .inl hX
   · exact hp.ge k hk
section
variable {f : FuncId} {fn : Func} {c : Code} {args : List Value} {ι : Type} {val : ι → Value} {dr : ι → List Dt} {lr : Nat → ι → List Res}
def RQM (P : Program) (fn : Func) (w0 : World) (X : Cx) {ι : Type} (val : ι → Value) (dr : ι → List Dt) (lr : Nat → ι → List Res) : Exit → Act → World → Prop := BQM P fn w0 (fun v H' => ∃ i F',v = val i ∧ ∀ B,B ≤ X.n → Hp X (dr i) (lr B i) F' H')
theorem jenterM {m : Nat} (hf : P.funcs[f]? = some fn) (hb : fn.body = some c) (hn : fn.ntmps = m) (ha : Nat.ble args.length m = true)
   (h : ∀ (w0 : World) (X : Cx),CH P ⟨m,[]⟩ w0 (RQM P fn w0 X val dr lr) X D0 L0 (number 0 args) c) : Tr P f args.toArray D0 L0 val dr lr := fun F H hin hd ho =>
 Ct.enterM hf hb hn ha fun w0 hw => h w0 ⟨Own L0,H,F⟩ F H ⟨PH.ext.refl F,hin,Kw.refl _ _,hd,ho,fun k hk => .inr hk⟩
theorem Hp.unmark {F : PH} (hp : Hp X D L F H) (hk : Tk L (mkR M9) M) (hX : X.H.size ≤ M9) : Hp X D M F (puto H M9 (.deferred none)) := by
 obtain ⟨⟨h1,h2⟩,h3,h4⟩ := hk.ok hp.ok
 have ho : ∀ k,k ≠ M9 → (puto H M9 (.deferred none))[k]? = H[k]? := fun k hk => by
   unfold puto; exact Array.getElem?_setIfInBounds_ne (fun e => hk e.symm)
 have hsz : (puto H M9 (.deferred none)).size = H.size := by unfold puto; simp
 refine ⟨hp.hx,hp.hin.of (fun k o hF => ho k (fun e => by subst e; rw [h2] at hF; cases hF)),⟨by rw [hsz]; exact hp.hw.1,fun k hk1 hk2 => (ho k (by omega)).trans (hp.hw.2 k hk1 hk2)⟩,hp.hd,h4.st (PH.le.refl F) (by rw [hsz]; exact Nat.le_refl _) (fun k hk1 => h4.no hk1) (fun k hk1 => ho k (fun e => by subst e; exact h3 k rfl hk1)),fun k hk1 => hp.ge k (hk.own (.inr hk1))⟩
theorem jrM {m t : Nat} {v : Value} (hr : fn.results = #[.tmp t]) (hv : lk e t = some v) (hmk : Tk L (mkR M9) M) (i : ι) (hm : v = val i) (hd : Sd D M (dr i)) (hk : ∀ B,B ≤ X.n → Tks M (lr B i) N) (hX : X.H.size ≤ M9) : QH (Fs.mark ⟨m,[]⟩ M9) w0 (RQM P fn w0 X val dr lr) X D L e .ret := fun F H hp => by
 have hp2 := hp.unmark hmk hX
 exact PF.ret1M hr hv (hmk.ok hp.ok).1.1 ⟨i,F,hm,fun B hB => hp2.sub hd (hk B hB)⟩
end
end Go.JE
namespace Go.JE
variable {P : Program} {n : Fs} {w0 : World} {Q : Exit → Act → World → Prop} {e : Env} {H A : Heap} {X : Cx} {D D0 : List Dt} {L L0 M N : List Res} {F G : PH} {k : Nat}
def OwM (a b go : Nat) (A : Heap) (k : Nat) : Prop := k = a ∨ k = b ∨ k = go ∨ ∃ cur E,A[go]? = some (.cells cur E (0,0)) ∧ ∃ v ∈ cur.toList,v.ownBlock = some k
theorem OwM.go {a b go : Nat} {A B : Heap} (h : B[go]? = A[go]?) {k : Nat} (hk : OwM a b go B k) : OwM a b go A k := by
 unfold OwM at *
 rw [h] at hk; exact hk
section
variable {α : Type} {r : Rp α} {T To Ta Tb : TypeId} {B a b go m : Nat} {va vb : Value} {vs : List Value} {ls : List (List α)}
abbrev Lm (a : Nat) (Ta : TypeId) (va : Value) (b : Nat) (Tb : TypeId) (vb : Value) (B : Nat) (r : Rp α) (T To : TypeId) (go m : Nat) (s : List Value × List (List α)) : List Res :=
 [bx a Ta [va],bx b Tb [vb],rw' B r T s.1 s.2,gl B rV To (.slice (some ⟨go,0,none⟩) m m) s.1]
theorem own_rws : ∀ {vs : List Value} {ls : List (List α)},vs.length = ls.length → (Own (rws B r T vs ls) k ↔ ∃ v ∈ vs,v.ownBlock = some k)
 | [],[],_ => ⟨fun h => h.elim,fun ⟨_,h,_⟩ => by cases h⟩
 | v :: vs,l :: ls,h => by
   have ih := own_rws (vs := vs) (ls := ls) (by simpa using h)
   have e : Own (rws B r T (v :: vs) (l :: ls)) k ↔ v.ownBlock = some k ∨ Own (rws B r T vs ls) k := Iff.rfl
   rw [e,ih]; simp
 | [],_ :: _,h => by cases h
 | _ :: _,[],h => by cases h
theorem rows_cells : ∀ {vs : List Value} {ls : List (List α)},Ok F A (rws B r T vs ls) → ∀ k,Own (rws B r T vs ls) k → ∃ o,A[k]? = some o ∧ o.isCells = true
 | [],_,_,_,h => h.elim
 | _ :: _,[],_,_,h => h.elim
 | v :: vs,l :: ls,⟨h1,_,h3⟩,k,hk => by
   rcases hk with hk | hk
   · have hlt := h1.1.lt k hk
     exact ⟨_,Array.getElem?_eq_getElem hlt,h1.1.isc hk (Array.getElem?_eq_getElem hlt)⟩
   · exact rows_cells h3 k hk
theorem le_none {F G : PH} {k : Nat} (h : F.le G) (hk : G k = none) : F k = none := by
 cases h1 : F k with
 | none => rfl
 | some o => rw [h k o h1] at hk; cases hk
theorem rows_down (hr : ∀ (a : α) (g : Nat → Value),r.ok G a g → r.ok F a g) (hl : F.le G) : ∀ {vs : List Value} {ls : List (List α)},Ok G A (rws B r T vs ls) → Ok F A (rws B r T vs ls)
 | [],_,_ => trivial
 | _ :: _,[],_ => trivial
 | v :: vs,l :: ls,⟨h1,h2,h3⟩ => by
   obtain ⟨⟨xs,o1,o2,o3⟩,h4⟩ := h1
   exact ⟨⟨⟨xs,o1,fun k hk => le_none hl (o2 k hk),fun i hi => hr _ _ (o3 i hi)⟩,h4⟩,h2,rows_down hr hl h3⟩
theorem mat_out (h : (gl B rV To (.slice (some ⟨go,0,none⟩) m m) vs).sat F A) : ∃ cur,A[go]? = some (.cells cur To (0,0)) ∧ cur.toList = vs := by
 obtain ⟨⟨xs,o1,o2,o3⟩,_⟩ := h
 rcases o1.2 with ⟨h1,_⟩ | ⟨g,cap,cur,e1,f1,f2,f3,f4,f5,f6⟩
 · cases h1
 · injection e1 with e1 e2 e3
   injection e1 with e1
   injection e1 with e1
   subst e1; subst e2; subst e3
   refine ⟨cur,f2,?_⟩
   have hsz : rV.sz = 1 := rfl
   rw [hsz] at f5 f6
   rw [Nat.mul_one] at f5 f6
   rw [List.take_of_length_le (by simp [f5])] at f6
   rw [f6]
   have hl : xs.length = vs.length := by have := o1.1; rw [hsz,Nat.mul_one] at this; exact this
   refine List.ext_getElem hl fun i h1 h2 => ?_
   have h3 := (o3 i h2).1
   have h4 : xs.getD (i * 1 + 0) undef = vs[i] := h3
   rw [Nat.mul_one,Nat.add_zero,List.getD_eq_getElem?_getD,List.getElem?_eq_getElem h1] at h4
   exact h4
theorem mat_ow {s : List Value × List (List α)} (hs : s.1.length = s.2.length) (h : Ok F A (Lm a Ta va b Tb vb B r T To go m s)) (k : Nat) : Own (Lm a Ta va b Tb vb B r T To go m s) k ↔ OwM a b go A k := by
 obtain ⟨_,_,_,_,_,_,h4,_,_⟩ := h
 obtain ⟨cur,h5,h6⟩ := mat_out h4
 have e : Own (Lm a Ta va b Tb vb B r T To go m s) k ↔ k = a ∨ k = b ∨ Own (rws B r T s.1 s.2) k ∨ some go = some k ∨ False := Iff.rfl
 rw [e,own_rws hs]
 unfold OwM
 rw [h5]
 constructor
 · rintro (h | h | h | h | h)
   · exact .inl h
   · exact .inr (.inl h)
   · obtain ⟨v,h7,h8⟩ := h
     exact .inr (.inr (.inr ⟨cur,To,rfl,v,by rw [h6]; exact h7,h8⟩))
   · injection h with h; exact .inr (.inr (.inl h.symm))
   · exact h.elim
 · rintro (h | h | h | ⟨cur',E,h7,v,h8,h9⟩)
   · exact .inl h
   · exact .inr (.inl h)
   · exact .inr (.inr (.inr (.inl (by rw [h]))))
   · injection h7 with h7
     injection h7 with h7
     subst h7
     exact .inr (.inr (.inl ⟨v,by rw [← h6]; exact h8,h9⟩))
theorem mat_oc {s : List Value × List (List α)} (h : Ok F A (Lm a Ta va b Tb vb B r T To go m s)) (k : Nat) (hk : Own (Lm a Ta va b Tb vb B r T To go m s) k) : ∃ o,A[k]? = some o ∧ o.isCells = true := by
 obtain ⟨h1,_,h2,_,h3,_,h4,_,_⟩ := h
 rcases hk with hk | hk | hk | hk | hk
 · have hk' : k = a := hk
   subst hk'; exact ⟨_,h1.1,rfl⟩
 · have hk' : k = b := hk
   subst hk'; exact ⟨_,h2.1,rfl⟩
 · exact rows_cells h3 k hk
 · obtain ⟨cur,h5,_⟩ := mat_out h4
   have hk' : some go = some k := hk
   injection hk' with hk'
   subst hk'; exact ⟨_,h5,rfl⟩
 · exact hk.elim
theorem mat_od {s : List Value × List (List α)} (hr : ∀ (F G : PH) (a : α) (g : Nat → Value),r.ok G a g → r.ok F a g) (hl : F.le G) (h : Ok G A (Lm a Ta va b Tb vb B r T To go m s)) : Ok F A (Lm a Ta va b Tb vb B r T To go m s) := by
 obtain ⟨h1,p1,h2,p2,h3,p3,h4,p4,_⟩ := h
 obtain ⟨⟨xs,o1,o2,o3⟩,o4⟩ := h4
 exact ⟨⟨h1.1,le_none hl h1.2⟩,p1,⟨h2.1,le_none hl h2.2⟩,p2,rows_down (hr F G) hl h3,p3,⟨⟨xs,o1,fun k hk => le_none hl (o2 k hk),fun i hi => o3 i hi⟩,o4⟩,p4,trivial⟩
end
section
variable {α : Type} {r : Rp α} {T To E : TypeId} {B go a b m' : Nat} {va vb v : Value} {vs : List Value} {ls : List (List α)} {l : List α} {Ta Tb : TypeId} {ro : Option Nat} {m : Nat} {c : Code}
theorem mat_go {s : List Value × List (List α)} (h : Ok F A (Lm a Ta va b Tb vb B r T To go m' s)) : go < A.size := by
 obtain ⟨_,_,_,_,_,_,h4,_,_⟩ := h
 obtain ⟨cur,h5,_⟩ := mat_out h4
 exact (Array.getElem?_eq_some_iff.1 h5).1
end
theorem rI_any {k : IntKind} (F G : PH) (a : Int) (g : Nat → Value) (h : (rI k).ok G a g) : (rI k).ok F a g := h
end Go.JE
namespace Go.Proofs.Ytmfkkodnghambaa
open Go.JE
theorem E75 : Ent Try.prog 75 := ⟨_,Try.func75,by kernel_rfl,by kernel_rfl⟩
theorem E80 : Ent Try.prog 80 := ⟨_,Try.func80,by kernel_rfl,by kernel_rfl⟩
theorem edges_ct {a0 : Value} {g : List (List Int)} : Tr Try.prog 75 #[a0] [dv (rL (rL (rI .i64))) a0 g] [] (fun g1 : Nat => .func (.func 80) #[] #[.pointer (some ⟨g1,0,none⟩)]) (fun _ => []) (fun _ g1 => [bx g1 109 [a0]]) := by
 refine jenter (args := [a0]) Try.func75 rfl rfl rfl fun w0 X => ?_
 refine jq (jr (jdq d0 fun q1 w1 => jbox Z w1.cells fun g1 => ja Z (jn (jx (jq (jr (js (jmf1 Z) (ja Z (jn ?_)))))))))
 refine jx (jrt ?_)
 exact jr1 Z Z g1 Z dn (fun _ _ => (kc k0 kn))
theorem preds_ct {a0 : Value} {g : List (List Int)} (hgn : g.length ≤ 512) : Td Try.prog 64 #[a0] [dv (rL (rL (rI .i64))) a0 g] [] (rL (rL (rI .i64))) (predsG g) := by
 refine jenterM (args := [a0]) Try.func64 rfl rfl rfl fun w0 X => ?_
 refine jq (jr (ja Z (jn (jx (jq (jr (jm Z (jdq d0 fun q1 w1 => js (jln U109 d0 Z) (jmk (m := (List.length g)) (r := rV) U109 I32 Z Z Z Z Z (by omega) (wV Z) Z fun g8 => jrn (r := (rI .i64)) (T := 3) (List.length g) ?_)))))))))
 refine jalc J109 Z fun g3 => jst k0 Z109 Z Z Z s0 (jn (jx (jq (jq (jr (jm Z (jc E75 Z Z edges_ct (dc d0 dn) kn (fun _ => p0) (fun _ => p1) fun g10 => jn (jx (jb ?_)))))))))
 refine crf (σ := List Value × List (List Int)) (α := Ed g.length) (go := g8) (xs := edgesX g) (encs := edEnc) (fun x => [(3,.pointer (some ⟨g3,0,none⟩)),(4,.int .i64 x.val.1),(5,.int .i64 x.val.2)]) (fun s => Lm g10 109 a0 g3 109 (.slice (some ⟨g8,0,none⟩) (List.length g) (List.length g)) X.n (rI .i64) 3 32 g8 (List.length g) s) (OwM g10 g3 g8) (fun pre s => s.2 = predsE g.length (pre.map Subtype.val) ∧ s.1.length = s.2.length) (List.replicate (List.length g) (.slice none 0 0),List.replicate (List.length g) []) rfl E80 (fun _ => rfl) rfl (fun _ s F A hi h => mat_ow hi.2 h) (fun _ s F A hi h => mat_oc h) (fun _ s F G A hi hl h => mat_od (fun F G => rI_any F G) hl h) (fun A B h k hk => hk.go h) (fun F H hin hd ho => ⟨edges_iter hin ho.1.1 hd.1 (fun A B h k hk => hk.go h) (mat_go ho) (fun k hk => ho.lt ((mat_ow (by simp) ho k).2 hk)) (fun k hk => ho.no ((mat_ow (by simp) ho k).2 hk)),mat_go ho⟩) ⟨rfl,by simp⟩ ?_ ?_ ?_
 intro lx x H9
 refine RCF.seq ?_
 refine RCF.region ?_
 refine LF.step (OpOk.assign rfl) ?_
 refine RLF.nil ?_
 refine RPF.next ?_
 refine RCF.region ?_
 refine LF.step (OpOk.assign rfl) ?_
 refine RLF.nil ?_
 exact PF.assigned ⟨rfl,rfl,rfl,trivial⟩
 rintro lx pre ⟨⟨pa,pb⟩,hpa,hpb⟩ ⟨vs,ls⟩ X2 ⟨hls,hvl⟩ hlt; dsimp only [Lm] at hpa hpb hls hvl ⊢
 have hll : ls.length = g.length := by rw [hls]; exact predsE_len _
 have hsm : (ls[pb.toNat]?.getD []).length ≤ 262144 := by rw [hls]; refine Nat.le_trans (predsE_le _) ?_; rw [List.length_map]; have := edgesX_few hgn; omega
 refine rb (rany false (.a 0 (.a 1 (.a 2 (.a 3 (.a 6 (.w 4 7 (.w 5 7 (.o 7 (.o 8 (.o 9 (.o 10 .e)))) (.o 5 (.o 8 (.o 9 (.o 10 .e))))) (.o 4 (.o 5 (.o 8 (.o 9 (.o 10 .e))))))))))) Mixed (by kernel_rfl) (kc k1 kn) (by kernel_rfl) fun F2 => jy Z (jl k0 O109 Z Z) (jy Z (jmv Z) (jy Z (jl k0 O109 Z Z) (jy Z (jmv Z) (jy Z (jmv Z) ?_)))))
 refine jyw Z Z ?_ ?_
 refine js (jig (i := (Int.toNat pb)) U109 Z32 k3 Z Z (by omega) (by omega)) (jyn d0 (kc k1 kn) ?_)
 refine jyw Z Z ?_ ?_
 refine js (jgW k3 (by omega) O32 Z) (jyn d0 (kc k1 kn) (jyo Z (jlit (r := (rI .i64)) (l := [pa]) U32 I3 (by decide) Z Z Z (lV Z Z (wI (wp (IntWalk.i64_in _ (by omega)))) ln) fun g20 => jyn d0 (kc k2 kn) (jyo Z (jfz k0 (by (try simp) <;> omega) (jro (Int.toNat pb) k2 (by omega) (by omega) (jgo k0 fun w9 => japl U32 I3 (by decide) Z k0 Z Z d0 (by (try simp) <;> omega) fun v21 w10 => jyn d1 (kc k3 kn) (jyo Z ?_))))))))
 refine js (jig (i := (Int.toNat pb)) U109 Z32 k4 Z Z (by omega) (by omega)) (jyn d0 (kc k3 kn) (jyo Z (jsg k4 Z Z32 Z Z w10.one (by omega) (wV w10.one) (jru k1 k1 (by omega) (by omega) (jyn d0 (kc k3 kn) (jyd ?_))))))
 exact rend (List.set vs (Int.toNat pb) v21,List.set ls (Int.toNat pb) ((List.getD ls (Int.toNat pb) []) ++ ([pa]))) ⟨by dsimp only; rw [hls,List.map_append]; exact (predsE_snoc (l := pre.map Subtype.val) (p := (pa,pb))).symm,by simp [hvl]⟩ (kc k2 (kc k2 (kd kn)))
 refine jlit (r := (rI .i64)) (l := [pa]) U32 I3 (by decide) Z Z Z (lV Z Z (wI (wp (IntWalk.i64_in _ (by omega)))) ln) fun g20 => jyn d0 (kc k2 kn) (jyo Z (js (jgW k4 (by omega) O32 Z) (jyn d0 (kc k2 kn) (jyo Z (jfz k0 (by (try simp) <;> omega) (jro (Int.toNat pb) k2 (by omega) (by omega) (jgo k0 fun w9 => japl U32 I3 (by decide) Z k0 Z Z d0 (by (try simp) <;> omega) fun v21 w10 => jyn d1 (kc k3 kn) (jyo Z ?_))))))))
 refine js (jig (i := (Int.toNat pb)) U109 Z32 k4 Z Z (by omega) (by omega)) (jyn d0 (kc k3 kn) (jyo Z (jsg k4 Z Z32 Z Z w10.one (by omega) (wV w10.one) (jru k1 k1 (by omega) (by omega) (jyn d0 (kc k3 kn) (jyd ?_))))))
 exact rend (List.set vs (Int.toNat pb) v21,List.set ls (Int.toNat pb) ((List.getD ls (Int.toNat pb) []) ++ ([pa]))) ⟨by dsimp only; rw [hls,List.map_append]; exact (predsE_snoc (l := pre.map Subtype.val) (p := (pa,pb))).symm,by simp [hvl]⟩ (kc k2 (kc k2 (kd kn)))
 refine jlit (r := (rI .i64)) (l := [pa]) U32 I3 (by decide) Z Z Z (lV Z Z (wI (wp (IntWalk.i64_in _ (by omega)))) ln) fun g20 => jyn d0 (kc k2 kn) (jyo Z (js (jig (i := (Int.toNat pb)) U109 Z32 k4 Z Z (by omega) (by omega)) (jyn d0 (kc k2 kn) (jyo Z (js (jgW k4 (by omega) O32 Z) (jyn d0 (kc k2 kn) (jyo Z (jfz k0 (by (try simp) <;> omega) (jro (Int.toNat pb) k2 (by omega) (by omega) (jgo k0 fun w9 => ?_))))))))))
 refine japl U32 I3 (by decide) Z k0 Z Z d0 (by (try simp) <;> omega) fun v21 w10 => jyn d1 (kc k3 kn) (jyo Z (js (jig (i := (Int.toNat pb)) U109 Z32 k4 Z Z (by omega) (by omega)) (jyn d0 (kc k3 kn) (jyo Z (jsg k4 Z Z32 Z Z w10.one (by omega) (wV w10.one) (jru k1 k1 (by omega) (by omega) (jyn d0 (kc k3 kn) (jyd ?_))))))))
 exact rend (List.set vs (Int.toNat pb) v21,List.set ls (Int.toNat pb) ((List.getD ls (Int.toNat pb) []) ++ ([pa]))) ⟨by dsimp only; rw [hls,List.map_append]; exact (predsE_snoc (l := pre.map Subtype.val) (p := (pa,pb))).symm,by simp [hvl]⟩ (kc k2 (kc k2 (kd kn)))
 rintro M9 ⟨vs,ls⟩ ⟨hls,hvl⟩ hMX; dsimp only [Lm] at hls hvl ⊢
 rw [edgesX_val] at hls; have hls0 : ls = predsG g := hls
 have hll : ls.length = g.length := by rw [hls]; exact predsE_len _
 refine jbn (jx (jq (jr (js (jl k2 O109 Z Z) (ja Z (jn (jx (jrt ?_))))))))
 refine qfr k4 k3 hvl (by omega) (fun l hl => by rw [hls] at hl; exact predsE_small hgn l hl) ?_
 exact jrM Z Z k0 ((.slice (some ⟨g8,0,none⟩) (List.length g) (List.length g)) : Value) Z (by rw [← hls0]; exact (dc d0 dn)) (fun _ _ => kn) hMX
theorem E62 : Ent Try.prog 62 := ⟨_,Try.func62,by kernel_rfl,by kernel_rfl⟩
theorem E64 : Ent Try.prog 64 := ⟨_,Try.func64,by kernel_rfl,by kernel_rfl⟩
theorem E76 : Ent Try.prog 76 := ⟨_,Try.func76,by kernel_rfl,by kernel_rfl⟩
theorem idom_ct {a0 : Value} {g : List (List Int)} (hn : 0 < g.length ∧ g.length ≤ 512) (hw : ∀ b,b < g.length → ∃ w,RB (fun q t => (t : Int) ∈ ix (cleanM g) q) w b) : Tr Try.prog 65 #[a0] [dv (rL (rL (rI .i64))) a0 g] [] (fun c : Value × List Int => c.1) (fun c => [dv (rL (rI .i64)) c.1 c.2,pu (DomG g c.2)]) (fun _ _ => []) := by
 refine jenter (args := [a0]) Try.func65 rfl rfl rfl fun w0 X => ?_
 refine jq (jr (ja Z (jn (jx (jq (jr (jm Z (jc E62 Z Z (order_ct hn hw) (dc d0 dn) kn (fun _ => p2) (fun _ => p0) fun c17 => jpu d1 fun hod => ja Z (jn ?_)))))))))
 refine jx (jq (jr (jm Z (jdq d2 fun q3 w3 => js (jln U109 d2 Z) (jmk (m := (List.length g)) (r := (rI .i64)) U32 I3 Z Z Z Z Z (by omega) (wI (wp (by decide))) Z fun g20 => ja Z (jn (jx (jq (jr ?_)))))))))
 refine jm Z (js (jln U109 d2 Z) (jmk (m := (List.length g)) (r := (rI .i64)) U32 I3 Z Z Z Z Z (by omega) (wI (wp (by decide))) Z fun g23 => ja Z (jn (jx (jq (jq (jr (jm Z (js (jln U109 d2 Z) (jm Z ?_))))))))))
 refine jn (jx (jb ?_))
 refine jlp (u3 fun (k : Nat) (nm : List Int) (ou : List Int) => ⟨k ≤ g.length ∧ nm.length = g.length ∧ ou = List.replicate k (-1) ++ List.replicate (g.length - k) 0,[dv (rL (rI .i64)) c17.1 c17.2,dv (rL (rL (rI .i64))) a0 g],[gl X.n (rI .i64) 3 (.slice (some ⟨g23,0,none⟩) (List.length g) (List.length g)) ou,gl X.n (rI .i64) 3 (.slice (some ⟨g20,0,none⟩) (List.length g) (List.length g)) nm],[(0,a0),(2,.slice none 0 0),(3,c17.1),(4,(.slice (some ⟨g20,0,none⟩) (List.length g) (List.length g))),(5,(.slice (some ⟨g23,0,none⟩) (List.length g) (List.length g))),(25,.int .i64 (↑(List.length g))),(26,.int .i64 (↑k))],g.length - k⟩) (0,List.replicate (List.length g) 0,List.replicate (List.length g) 0) ⟨by dsimp only; omega,by simp,by simp⟩ (dc d0 (dc d2 dn)) (kd kn) ⟨Z,Z,Z,Z,Z,Z,eqI (by omega),trivial⟩ ?_
 rintro ⟨k,nm,ou⟩; dsimp only [u3]; rintro ⟨hk,hnl,hou⟩
 have hol : ou.length = g.length := by rw [hou]; simp; omega
 refine jq (jr (js (jlss Z Z) (jn (jx (jq ?_)))))
 refine jif Z (fun hc1 => ?_) (fun hc1 => ?_)
 refine jsk (jx (jq (jb (jq (jr (jm Z (ja Z (jn (jx (jr (jm Z ?_)))))))))))
 refine jm Z (jm Z (jm Z (js (jig U32 Z3 k1 Z Z Z (by omega)) (jsg k1 Z Z3 Z Z Z (by omega) (wI (wl (-1))) (js (jig U32 Z3 k1 Z Z Z (by omega)) (jsg k1 Z Z3 Z Z Z (by omega) (wI (wl (-1))) (jn (jbn (jx (jr (js (jadd Z Z (by omega)) ?_)))))))))))
 refine jm Z (jn ?_)
 exact jag (k + 1,List.set nm k (-1),List.set ou k (-1)) ⟨by dsimp only; omega,by simpa using hnl,by dsimp only; rw [hou]; exact fill_put (by omega)⟩ (dc d0 (dc d1 dn)) (kd kn) ⟨Z,Z,Z,Z,Z,Z,eqI (by omega),trivial⟩
 refine jex (jtx (jtx (jbh (jx (jq (jq (jr (jm Z (jdq d0 fun q4 w4 => js (jln U32 d0 Z) (jm Z ?_))))))))))
 refine jn (jx (jb ?_))
 refine jlp (u2 fun (k2 : Nat) (nm : List Int) => ⟨k2 ≤ c17.2.length ∧ NK g.length c17.2 nm k2,[dv (rL (rI .i64)) c17.1 c17.2,dv (rL (rL (rI .i64))) a0 g],[gl X.n (rI .i64) 3 (.slice (some ⟨g23,0,none⟩) (List.length g) (List.length g)) ou,gl X.n (rI .i64) 3 (.slice (some ⟨g20,0,none⟩) (List.length g) (List.length g)) nm],[(0,a0),(2,.slice none 0 0),(3,c17.1),(4,(.slice (some ⟨g20,0,none⟩) (List.length g) (List.length g))),(5,(.slice (some ⟨g23,0,none⟩) (List.length g) (List.length g))),(36,c17.1),(37,.int .i64 (↑(List.length c17.2))),(38,.int .i64 (↑k2))],c17.2.length - k2⟩) (0,nm) ⟨by dsimp only; omega,⟨by dsimp only; exact hnl,fun j h => absurd h (Nat.not_lt_zero _)⟩⟩ (dc d0 (dc d1 dn)) (kd kn) ⟨Z,Z,Z,Z,Z,Z,Z,eqI (by omega),trivial⟩ ?_
 rintro ⟨k2,nm⟩; dsimp only [u2]; rintro ⟨hk2,hnk⟩
 have hnl2 := hnk.1
 refine jq (jr (js (jlss Z Z) (jn (jx (jq ?_)))))
 refine jif Z (fun hc2 => ?_) (fun hc2 => ?_)
 have hr8 := od_rng hod (k := k2) (by omega)
 refine jsk (jx (jq (jb (jq (jr (jm Z (js (jix U32 Z3 d0 Z Z Z (by omega)) (js (jlI (dix d0 k2 (by omega)) O3 Z) (ja Z (ja Z (jn ?_)))))))))))
 refine jx (jr (jm Z (jm Z (jm Z (js (jig (i := (Int.toNat (ix c17.2 k2))) U32 Z3 k1 Z Z (by omega) (by omega)) (jsg k1 Z Z3 Z Z Z (by omega) (wI (wp (IntWalk.i64_in _ (by omega)))) (jn (jbn (jx (jr (js (jadd Z Z (by omega)) ?_)))))))))))
 refine jm Z (jn ?_)
 exact jag (k2 + 1,List.set nm (Int.toNat (ix c17.2 k2)) ((k2 : Nat) : Int)) ⟨by dsimp only; omega,hnk.nx hod (by omega)⟩ (dc d0 (dc d1 dn)) (kc k1 (kc k0 kn)) ⟨Z,Z,Z,Z,Z,Z,Z,eqI (by omega),trivial⟩
 refine jex (jtx (jtx (jbh (jx (jq (jr (jfz k1 (by omega) ?_)))))))
 have hnu : NU g.length c17.2 nm := ⟨hnk.1,fun j h => hnk.2 j (by omega)⟩
 have hgn := (hod.gn hn.1 hnu).1
 have hfull := od_full hod
 have hlen9 := od_len hod
 have hpl := preds_len g
 refine jm Z (jcd E64 Z Z (preds_ct hn.2) (dc d2 dn) kn fun v49 q6 w6 => ja Z (jn (jx (jq (jq (jr (ja Z (jn (jx (jb ?_))))))))))
 refine jlp (u3 fun (f : Nat) (ch : Bool) (ou : List Int) => ⟨IS g.length nm (prG g) ou 1 ∧ (ch = false → IS g.length nm (prG g) ou (g.length : Int)) ∧ smI g.length nm ou g.length + (if ch = true then 1 else 0) ≤ f,[dv (rL (rL (rI .i64))) v49 (predsG g),dv (rL (rI .i64)) (.slice (some ⟨g20,0,none⟩) (List.length g) (List.length g)) nm,dv (rL (rI .i64)) c17.1 c17.2],[gl X.n (rI .i64) 3 (.slice (some ⟨g23,0,none⟩) (List.length g) (List.length g)) ou],[(2,.slice none 0 0),(3,c17.1),(4,(.slice (some ⟨g20,0,none⟩) (List.length g) (List.length g))),(5,(.slice (some ⟨g23,0,none⟩) (List.length g) (List.length g))),(9,v49),(10,.bool ch)],f⟩) (smI g.length nm ou g.length + 1,true,ou) ⟨by dsimp only; rw [hou]; exact (by have h9 := IS.beg hgn; rw [show g.length - k = 0 by omega]; simpa [show k = g.length by omega] using h9),(fun h => by cases h),by dsimp only; rw [if_pos rfl]; exact Nat.le_refl _⟩ (dc d0 (dc d1 (dc d2 dn))) (kc k0 kn) ⟨Z,Z,Z,Z,Z,Z,trivial⟩ ?_
 rintro ⟨f,ch,ou⟩; dsimp only [u3]; rintro ⟨his,hid,hfu⟩
 have hol := his.tv.len
 refine jq (jq (jr (jm Z (jn (jx ?_)))))
 refine jif Z (fun hc3 => ?_) (fun hc3 => ?_)
 have hf0 : 0 < f := by rw [hc3] at hfu; simp at hfu; omega
 refine jsk (jx (jb (jq (jr (ja Z (jn (jx (jq (jr (jm Z (jm Z ?_)))))))))))
 refine js (jln U32 d2 Z) (js (jmin Z Z) (js (jslo (lo := (Int.toNat (min 1 (↑(List.length c17.2))))) U32 Z3 d2 Z Z (by omega) (by omega)) (jdq (dlo d2 (Int.toNat (min 1 (↑(List.length c17.2)))) (by omega) (by omega)) fun q8 w8 => js (jln U32 (dlo d2 (Int.toNat (min 1 (↑(List.length c17.2)))) (by omega) (by omega)) Z) (jm Z (jn (jx (jb ?_)))))))
 refine jlp (u3 fun (k : Nat) (ch2 : Bool) (ou2 : List Int) => ⟨k ≤ c17.2.length - 1 ∧ IR g.length nm (prG g) ou ou2 ch2 k,[dv (rL (rL (rI .i64))) v49 (predsG g),dv (rL (rI .i64)) (.slice (some ⟨g20,0,none⟩) (List.length g) (List.length g)) nm,dv (rL (rI .i64)) c17.1 c17.2],[gl X.n (rI .i64) 3 (.slice (some ⟨g23,0,none⟩) (List.length g) (List.length g)) ou2],[(2,.slice none 0 0),(3,c17.1),(4,(.slice (some ⟨g20,0,none⟩) (List.length g) (List.length g))),(5,(.slice (some ⟨g23,0,none⟩) (List.length g) (List.length g))),(9,v49),(10,.bool ch2),(55,(resl 1 c17.1 (Int.toNat (min 1 (↑(List.length c17.2)))) (List.length c17.2))),(56,.int .i64 (↑(List.length (List.drop (Int.toNat (min 1 (↑(List.length c17.2)))) c17.2)))),(57,.int .i64 (↑k))],c17.2.length - 1 - k⟩) (0,false,ou) ⟨by dsimp only; omega,⟨his,Nat.le_refl _,fun h => by cases h⟩⟩ (dc d0 (dc d1 (dc d2 dn))) (kc k0 kn) ⟨Z,Z,Z,Z,Z,Z,Z,Z,eqI (by omega),trivial⟩ ?_
 rintro ⟨k,ch2,ou2⟩; dsimp only [u3]; rintro ⟨hk4,hir⟩
 have hol2 := hir.is.tv.len
 have hdl : (List.drop (min 1 (c17.2.length : Int)).toNat c17.2).length = c17.2.length - 1 := by rw [List.length_drop]; omega
 refine jq (jr (js (jlss Z Z) (jn (jx (jq ?_)))))
 refine jif Z (fun hc4 => ?_) (fun hc4 => ?_)
 refine jsk (jx (jq (jb (jq (jr (js (jix U32 Z3 (dlo d2 (Int.toNat (min 1 (↑(List.length c17.2)))) (by omega) (by omega)) Z Z Z (by omega)) (js (jlI (dix (dlo d2 (Int.toNat (min 1 (↑(List.length c17.2)))) (by omega) (by omega)) k (by omega)) O3 Z) (ja Z (jn (jx (jq ?_)))))))))))
 refine jr (ja Z (jn (jx (jq (jq (jr ?_))))))
 generalize hb : ix (List.drop (Int.toNat (min 1 (↑(List.length c17.2)))) c17.2) k = b at ⊢
 have hbe : b = ix c17.2 (k + 1) := by rw [← hb,ix_drop9]; congr 1; omega
 have hbr := od_rng hod (k := k + 1) (by omega)
 rw [← hbe] at hbr
 have hbn : ix nm b.toNat = ((k + 1 : Nat) : Int) := by rw [hbe]; exact hnu.pos (k + 1) (by omega)
 have hb0 : b.toNat ≠ 0 := fun h => by rw [h,hgn.zero] at hbn; omega
 refine jm Z (jm Z (js (jix (i := (Int.toNat b)) U109 Z32 d0 Z Z (by omega) (by omega)) (jev (jlV (dix d0 (Int.toNat b) (by omega)) O32 Z Z) fun v64 q9 w9 => js (jln U32 d0 Z) (jm Z (jn (jx (jb ?_)))))))
 refine jlp (u2 fun (j : Nat) (best : Int) => ⟨S9 g.length ou2 (ix (predsG g) (Int.toNat b)) j best,[dv (rL (rI .i64)) v64 (ix (predsG g) (Int.toNat b)),dv (rL (rL (rI .i64))) v49 (predsG g),dv (rL (rI .i64)) (.slice (some ⟨g20,0,none⟩) (List.length g) (List.length g)) nm,dv (rL (rI .i64)) c17.1 c17.2],[gl X.n (rI .i64) 3 (.slice (some ⟨g23,0,none⟩) (List.length g) (List.length g)) ou2],[(2,.slice none 0 0),(3,c17.1),(4,(.slice (some ⟨g20,0,none⟩) (List.length g) (List.length g))),(5,(.slice (some ⟨g23,0,none⟩) (List.length g) (List.length g))),(9,v49),(10,.bool ch2),(12,.int .i64 b),(13,.int .i64 best),(55,(resl 1 c17.1 (Int.toNat (min 1 (↑(List.length c17.2)))) (List.length c17.2))),(56,.int .i64 (↑(List.length (List.drop (Int.toNat (min 1 (↑(List.length c17.2)))) c17.2)))),(57,.int .i64 (↑k)),(64,v64),(65,.int .i64 (↑(List.length (ix (predsG g) (Int.toNat b))))),(66,.int .i64 (↑j))],(ix (predsG g) (Int.toNat b)).length - j⟩) (0,-1) ⟨by dsimp only; omega,BS.beg,by dsimp only; omega,by dsimp only; omega⟩ (dc d0 (dc d1 (dc d2 (dc d3 dn)))) (kc k0 kn) ⟨Z,Z,Z,Z,Z,Z,Z,eqI (by omega),Z,Z,Z,Z,Z,eqI (by omega),trivial⟩ ?_
 rintro ⟨j,best⟩; dsimp only [u2]; rintro ⟨hj,hbs,hb1,hb2⟩
 have hs9 : S9 g.length ou2 (ix (predsG g) (Int.toNat b)) j best := ⟨hj,hbs,hb1,hb2⟩
 refine jq (jr (js (jlss Z Z) (jn (jx (jq ?_)))))
 refine jif Z (fun hc5 => ?_) (fun hc5 => ?_)
 refine jsk (jx (jq (jb (jq (jr (js (jix U32 Z3 d0 Z Z Z (by omega)) (js (jlI (dix d0 j (by omega)) O3 Z) (ja Z (jn (jx (jq ?_)))))))))))
 refine jq (jr ?_)
 generalize ha : ix (ix (predsG g) (Int.toNat b)) j = a at ⊢
 have har := preds_rng (ix_mem (l := ix (predsG g) b.toNat) (i := j) (by omega))
 rw [ha] at har
 refine jm Z (jm Z (jdq d2 fun q11 w11 => js (jix (i := (Int.toNat a)) U32 Z3 d2 Z Z (by omega) (by omega)) (js (jlI (dix d2 (Int.toNat a) (by omega)) O3 Z) (js (jlss Z Z) (jm Z (jg Z Z (.f _) (fun hg => jmv Z) (jg Z Z (.f _) (fun hg => jneq (evg Z hg) Z) (jg Z Z (.f _) (fun hg => jmv (evg Z hg)) (jg Z Z (.gt _ _) (fun hg => jmv Z) (jg Z Z (.gt _ _) (fun hg => jmv Z) ?_))))))))))
 refine jg Z Z (.gt _ _) (fun hg => jig (i := (Int.toNat a)) U32 Z3 k0 (evg Z hg) (evg Z hg) (by first | omega | (simp at hg; omega)) (by first | omega | (simp at hg; omega) | (simp only [List.length_set]; omega) | (simp; done))) (jg Z Z (.gt _ _) (fun hg => jgI k0 (by first | omega | (simp at hg; omega) | (simp only [List.length_set]; omega) | (simp; done)) O3 (evg Z hg)) (jg Z Z (.gt _ _) (fun hg => jlss (evg Z hg) Z) (jg Z Z (.f _) (fun hg => jand2 hg Z Z) (js (jor Z Z) (jn (jx ?_))))))
 refine jif Z (fun hc6 => ?_) (fun hc6 => ?_)
 refine jex (jtx (jbh (jx (jr (js (jadd Z Z (by omega)) (jm Z (jn ?_)))))))
 exact jag (j + 1,best) (s9_skip hgn hir.is hs9 ha har (by omega) (by simpa using hc6)) (dc d0 (dc d1 (dc d2 (dc d3 dn)))) (kc k0 kn) ⟨Z,Z,Z,Z,Z,Z,Z,Z,Z,Z,Z,Z,Z,eqI (by omega),trivial⟩
 have hca : ¬ a = 0 → 0 ≤ ix ou2 a.toNat := by simp at hc6; exact fun h => hc6.2.resolve_left h
 refine jsk (jx (jq (jq (jr (jm Z (js (jlss Z Z) (jn (jx ?_))))))))
 refine jif Z (fun hc7 => ?_) (fun hc7 => ?_)
 refine jq (jr (jm Z (ja Z (jn (jx (jex (jtx (jbh (jx (jr (js (jadd Z Z (by omega)) ?_)))))))))))
 refine jm Z (jn ?_)
 exact jag (j + 1,a) (s9_first hir.is hs9 ha har (by omega) hca hc7) (dc d0 (dc d1 (dc d2 (dc d3 dn)))) (kc k0 kn) ⟨Z,Z,Z,Z,Z,Z,Z,eqI (by omega),Z,Z,Z,Z,Z,eqI (by omega),trivial⟩
 refine jsk (jx (jr (jm Z (jm Z (jm Z (jm Z (jc E76 Z Z (Tv.temp 1073741824 (common_ct best a (s9_ok hgn hnl2 hir.is hs9 har hca (by omega))) (by omega)) (dc d2 dn) (kc k0 kn) (fun _ => p0) (fun _ => p1) fun _ => ja Z (jn (jbn (jx ?_))))))))))
 refine jr (js (jadd Z Z (by omega)) (jm Z (jn ?_)))
 exact jag (j + 1,comM ou2 nm best a) (s9_com hgn hir.is hs9 ha har (by omega) hca (by omega)) (dc d0 (dc d1 (dc d2 (dc d3 dn)))) (kc k0 kn) ⟨Z,Z,Z,Z,Z,Z,Z,eqI (by omega),Z,Z,Z,Z,Z,eqI (by omega),trivial⟩
 refine jex (jtx (jtx (jbh (jx (jq (jr (jm Z (jm Z (js (jig (i := (Int.toNat b)) U32 Z3 k0 Z Z (by omega) (by omega)) (js (jgI k0 (by omega) O3 Z) (jm Z ?_)))))))))))
 refine js (jneq Z Z) (jn (jx ?_))
 refine jif Z (fun hc8 => ?_) (fun hc8 => ?_)
 refine jr (jm Z (jm Z (jm Z (js (jig (i := (Int.toNat b)) U32 Z3 k0 Z Z (by omega) (by omega)) (jsg k0 Z Z3 Z Z Z (by omega) (wI (wp (IntWalk.i64_in _ (by omega)))) (ja Z (jn (jbn (jx (jr (js (jadd Z Z (by omega)) ?_)))))))))))
 refine jm Z (jn ?_)
 exact jag (k + 1,true,List.set ou2 (Int.toNat b) best) ⟨by dsimp only; omega,hir.set hgn (by omega) hb0 hbn (hs9.all (by omega)) hc8⟩ (dc d1 (dc d2 (dc d3 dn))) (kc k0 kn) ⟨Z,Z,Z,Z,Z,Z,Z,Z,eqI (by omega),trivial⟩
 refine jsk (jbn (jx (jr (js (jadd Z Z (by omega)) (jm Z (jn ?_))))))
 exact jag (k + 1,ch2,ou2) ⟨by dsimp only; omega,hir.keep hgn (by omega) hb0 hbn (hs9.all (by omega)) (by omega)⟩ (dc d1 (dc d2 (dc d3 dn))) (kc k0 kn) ⟨Z,Z,Z,Z,Z,Z,Z,Z,eqI (by omega),trivial⟩
 refine jex (jtx (jtx (jbh (jbn ?_))))
 exact jag (f - 1,ch2,ou2) ⟨(hir.is.end9 (by omega)).round hgn,fun _ => hir.is.end9 (by omega),by have h8 := hir.le; have h9 := hir.lt; have hf9 := hfu; rw [if_pos hc3] at hf9; dsimp only; cases ch2 <;> simp at h9 ⊢ <;> omega⟩ (dc d0 (dc d1 (dc d2 dn))) (kc k0 kn) ⟨Z,Z,Z,Z,Z,Z,trivial⟩
 refine jex (jtx (jtx (jbh (jx (jq (jr (jm Z (ja Z (jn (jx (jrt ?_)))))))))))
 refine qfz k0 (by omega) ?_
 exact jr1 Z Z ((.slice (some ⟨g23,0,none⟩) (List.length g) (List.length g)),ou) Z (dc d0 (dc (wpu ((hid (by simpa using hc3)).dg hgn)) dn)) (fun _ _ => kn)
end Go.Proofs.Ytmfkkodnghambaa
namespace Go.JE
variable {P : Program} {D D0 : List Dt} {L M Ls L0 : List Res} {e : Env} {X : Cx} {n : Fs} {w0 : World} {Q : Exit → Act → World → Prop}
variable {ops : Array Oper} {op : Op} {d : Nat} {ty : TypeId} {pos : String} {af : Array Edge} {rest : List Oper} {T T' K E : TypeId} {x y z : Operand} {g : Nat} {l : List (Int × Value)} {k : Int} {v u : Value} {b : Bool}
theorem jlkoN (hT : P.underlying T = some (.map K E)) (hK : P.underlying K = some (.int .i64)) (hz : (P.info? E).bind (·.zero) = some u) (hm : Tk L (im g l) M) (hx : ev e x = some (.map (some g))) (hi : ev e z = some (.int .i64 k)) (hl : lkM l k = none) : OH P D L e (.lookup T x z true) (.tuple #[u,.bool false]) := by
 have := jlko (D := D) hT hK hz hm hx hi
 rw [hl] at this; exact this
theorem jlkoS (hT : P.underlying T = some (.map K E)) (hK : P.underlying K = some (.int .i64)) (hz : (P.info? E).bind (·.zero) = some u) (hm : Tk L (im g l) M) (hx : ev e x = some (.map (some g))) (hi : ev e z = some (.int .i64 k)) (hl : lkM l k = some v) : OH P D L e (.lookup T x z true) (.tuple #[v,.bool true]) := by
 have := jlko (D := D) hT hK hz hm hx hi
 rw [hl] at this; exact this
end Go.JE
namespace Go.Proofs.Ytmfkkodnghambaa
open Go.JE
abbrev U107 := @Try.underlying107
abbrev U35 := @Try.underlying35
abbrev U50 := @Try.underlying50
abbrev U97 := @Try.underlying97
theorem A34 : ∃ d,Try.prog.underlying 34 = some d ∧ (match d with | .struct _ | .array _ _ => true | _ => false) = true := ⟨_,Try.underlying34,rfl⟩
theorem A57 : ∃ d,Try.prog.underlying 57 = some d ∧ (match d with | .struct _ | .array _ _ => true | _ => false) = true := ⟨_,Try.underlying57,rfl⟩
theorem E53 : Ent Try.prog 53 := ⟨_,Try.func53,by kernel_rfl,by kernel_rfl⟩
theorem E54 : Ent Try.prog 54 := ⟨_,Try.func54,by kernel_rfl,by kernel_rfl⟩
theorem E57 : Ent Try.prog 57 := ⟨_,Try.func57,by kernel_rfl,by kernel_rfl⟩
theorem E58 : Ent Try.prog 58 := ⟨_,Try.func58,by kernel_rfl,by kernel_rfl⟩
theorem E59 : Ent Try.prog 59 := ⟨_,Try.func59,by kernel_rfl,by kernel_rfl⟩
theorem E60 : Ent Try.prog 60 := ⟨_,Try.func60,by kernel_rfl,by kernel_rfl⟩
theorem E68 : Ent Try.prog 68 := ⟨_,Try.func68,by kernel_rfl,by kernel_rfl⟩
theorem E69 : Ent Try.prog 69 := ⟨_,Try.func69,by kernel_rfl,by kernel_rfl⟩
theorem F105_0 : Fld Try.prog 105 0 0 := ⟨_,_,Try.underlying105,rfl,rfl,1,(by unfold Sz; kernel_rfl),by decide⟩
theorem F105_1 : Fld Try.prog 105 1 1 := ⟨_,_,Try.underlying105,rfl,rfl,1,(by unfold Sz; kernel_rfl),by decide⟩
theorem F105_2 : Fld Try.prog 105 2 2 := ⟨_,_,Try.underlying105,rfl,rfl,1,(by unfold Sz; kernel_rfl),by decide⟩
theorem F105_3 : Fld Try.prog 105 3 3 := ⟨_,_,Try.underlying105,rfl,rfl,1,(by unfold Sz; kernel_rfl),by decide⟩
theorem F30_0 : Fld Try.prog 30 0 0 := ⟨_,_,Try.underlying30,rfl,rfl,1,(by unfold Sz; kernel_rfl),by decide⟩
theorem F34_3 : Fld Try.prog 34 3 3 := ⟨_,_,Try.underlying34,rfl,rfl,1,(by unfold Sz; kernel_rfl),by decide⟩
theorem F37_0 : Fld Try.prog 37 0 0 := ⟨_,_,Try.underlying37,rfl,rfl,1,(by unfold Sz; kernel_rfl),by decide⟩
theorem F37_1 : Fld Try.prog 37 1 1 := ⟨_,_,Try.underlying37,rfl,rfl,1,(by unfold Sz; kernel_rfl),by decide⟩
theorem F52_0 : Fld Try.prog 52 0 0 := ⟨_,_,Try.underlying52,rfl,rfl,1,(by unfold Sz; kernel_rfl),by decide⟩
theorem F52_1 : Fld Try.prog 52 1 1 := ⟨_,_,Try.underlying52,rfl,rfl,1,(by unfold Sz; kernel_rfl),by decide⟩
theorem F57_0 : Fld Try.prog 57 0 0 := ⟨_,_,Try.underlying57,rfl,rfl,1,(by unfold Sz; kernel_rfl),by decide⟩
theorem F99_0 : Fld Try.prog 99 0 0 := ⟨_,_,Try.underlying99,rfl,rfl,2,(by unfold Sz; kernel_rfl),by decide⟩
theorem F99_1 : Fld Try.prog 99 1 2 := ⟨_,_,Try.underlying99,rfl,rfl,1,(by unfold Sz; kernel_rfl),by decide⟩
theorem O35 : One Try.prog 35 := ⟨_,Try.underlying35,rfl⟩
theorem O50 : One Try.prog 50 := ⟨_,Try.underlying50,rfl⟩
theorem O97 : One Try.prog 97 := ⟨_,Try.underlying97,rfl⟩
theorem Z105 : Sz Try.prog 105 4 := by unfold Sz; kernel_rfl
theorem Z115 : Sz Try.prog 115 2 := by unfold Sz; kernel_rfl
theorem Z34 : Sz Try.prog 34 5 := by unfold Sz; kernel_rfl
theorem Z57 : Sz Try.prog 57 2 := by unfold Sz; kernel_rfl
theorem J105 : (Try.prog.info? 105).bind (·.zero) = some (.agg #[.int .i64 0,.int .i64 0,.int .i64 0,.int .i64 0]) := by kernel_rfl
theorem J115 : (Try.prog.info? 115).bind (·.zero) = some (.agg #[.int .i64 0,.int .i64 0]) := by kernel_rfl
theorem J34 : (Try.prog.info? 34).bind (·.zero) = some (.agg #[.int .i64 0,.int .i64 0,.int .i64 0,.slice none 0 0,.int .i32 0]) := by kernel_rfl
theorem J57 : (Try.prog.info? 57).bind (·.zero) = some (.agg #[.int .i64 0,.slice none 0 0]) := by kernel_rfl
set_option maxRecDepth 4000
theorem must_ct (ok : Bool) (e : Int) (b : Int) (p : Int) (hok : ok = true) : Tr Try.prog 53 #[.bool ok,.int .i64 e,.int .i64 b,.int .i64 p] [] [] (fun _ : Unit => .tuple #[]) (fun _ => []) (fun _ _ => []) := by
 refine jenter (args := [.bool ok,.int .i64 e,.int .i64 b,.int .i64 p]) Try.func53 rfl rfl rfl fun w0 X => ?_
 refine jq (jr (jm Z (js (jnot Z) (jn (jx ?_)))))
 refine jif Z (fun hc1 => ?_) (fun hc1 => ?_)
 exact absurd hc1 (by rw [hok]; decide)
 refine jsk ?_
 exact jd0 Z () Z dn (fun _ _ => kn)
theorem kMake_ct {g0 gm : Nat} {cf : Value} {f : D.Func} {L : List (Int × Value)} (n : Int) (b : Int) (p : Int) (hok : withinM n f.Params 8191 = true) : Tr Try.prog 68 #[.pointer (some ⟨g0,0,none⟩),.int .i64 n,.int .i64 b,.int .i64 p] [da rFunc (vFunc f cf) f] [bx g0 99 [.int .i64 f.Params,cf,.map (some gm)],im gm L] (fun _ : Unit => .tuple #[]) (fun _ => []) (fun _ _ => [bx g0 99 [.int .i64 f.Params,cf,.map (some gm)],im gm L]) := by
 refine jenter (args := [.pointer (some ⟨g0,0,none⟩),.int .i64 n,.int .i64 b,.int .i64 p]) Try.func68 rfl rfl rfl fun w0 X => ?_
 refine jr (jm Z (jm Z (js (jnil Z) (js (jf F99_0 Z) (js (jf F30_0 Z) (js (jl k0 O3 Z Z) (jcv E54 Z Z (within_ct n f.Params 8191) dn kn (jm Z (jm Z (jc E53 Z Z (must_ct (withinM n f.Params 8191) 11 b p hok) dn kn (fun _ => p0) (fun _ => p0) fun _ => jn ?_))))))))))
 exact jd0 Z () Z dn (fun _ _ => (kd kn))
theorem kOnce_ct {g0 gm : Nat} {cf : Value} {f : D.Func} {L : List (Int × Value)} (n : Int) (b : Int) (p : Int) (hno : lkM L n = none) : Tr Try.prog 69 #[.pointer (some ⟨g0,0,none⟩),.int .i64 n,.int .i64 b,.int .i64 p] [da rFunc (vFunc f cf) f] [bx g0 99 [.int .i64 f.Params,cf,.map (some gm)],im gm L] (fun _ : Unit => .tuple #[]) (fun _ => []) (fun _ _ => [bx g0 99 [.int .i64 f.Params,cf,.map (some gm)],im gm (upM L n (wv b p))]) := by
 refine jenter (args := [.pointer (some ⟨g0,0,none⟩),.int .i64 n,.int .i64 b,.int .i64 p]) Try.func69 rfl rfl rfl fun w0 X => ?_
 refine jq (jr (jm Z (js (jnil Z) (js (jf F99_1 Z) (js (jl k0 O97 Z Z) (jm Z (js (jlkoN U97 U3 J115 k1 Z Z hno) (jm Z (js (jex' Z Z) (js (jex' Z Z) (jalc J115 Z fun g8 => ?_)))))))))))
 refine jsta k0 Z115 Z Z Z ⟨Z,Z,trivial⟩ (saf Z) (ja Z (jn (jx (jq (jr (jm Z (js (jnot Z) (jm Z (jm Z (jc E53 Z Z (must_ct (!false) 12 b p rfl) dn kn (fun _ => p0) (fun _ => p0) fun _ => jn ?_))))))))))
 refine jx (jr (jm Z (js (jnil Z) (js (jf F99_1 Z) (js (jl k1 O97 Z Z) (jm Z (jm Z (jm Z (js (jbu (v := .agg #[.int .i64 b,.int .i64 p]) Z (fun _ => by kernel_rfl)) (jup U97 U3 k2 Z Z Z Z (jn ?_)))))))))))
 exact jd0 Z () Z dn (fun _ _ => (kc k2 (kc k0 kn)))
theorem kAll_ct {g0 gm : Nat} {cf : Value} {f : D.Func} {L : List (Int × Value)} {a1 : Value} {l : List Int} (b : Int) (p : Int) (hmk : ∀ n ∈ l,withinM n f.Params 8191 = true) (hnd : l.Nodup) (hno : ∀ n ∈ l,lkM L n = none) : Tr Try.prog 57 #[.pointer (some ⟨g0,0,none⟩),a1,.int .i64 b,.int .i64 p] [da rFunc (vFunc f cf) f,dv (rL (rI .i64)) a1 l] [bx g0 99 [.int .i64 f.Params,cf,.map (some gm)],im gm L] (fun _ : Unit => .tuple #[]) (fun _ => []) (fun _ _ => [bx g0 99 [.int .i64 f.Params,cf,.map (some gm)],im gm (insA b p l L)]) := by
 refine jenter (args := [.pointer (some ⟨g0,0,none⟩),a1,.int .i64 b,.int .i64 p]) Try.func57 rfl rfl rfl fun w0 X => ?_
 refine jq (jq (jr (jm Z (jdq d1 fun q1 w1 => js (jln U32 d1 Z) (jm Z (jn (jx (jb ?_))))))))
 refine jlp (fun (k : Nat) => ⟨k ≤ l.length,[da rFunc (vFunc f cf) f,dv (rL (rI .i64)) a1 l],[bx g0 99 [.int .i64 f.Params,cf,.map (some gm)],im gm L],[(0,.pointer (some ⟨g0,0,none⟩)),(1,a1),(2,.int .i64 b),(3,.int .i64 p),(12,a1),(13,.int .i64 (↑(List.length l))),(14,.int .i64 (↑k))],l.length - k⟩) 0 (Nat.zero_le _) (dc d0 (dc d1 dn)) (kd kn) ⟨Z,Z,Z,Z,Z,Z,eqI (by omega),trivial⟩ ?_
 rintro k; dsimp only; rintro hk
 refine jq (jr (js (jlss Z Z) (jn (jx (jq ?_)))))
 refine jif Z (fun hc1 => ?_) (fun hc1 => ?_)
 refine jsk (jx (jq (jb (jq (jr (js (jix U32 Z3 d1 Z Z Z (by omega)) (js (jlI (dix d1 k (by omega)) O3 Z) (ja Z (jn (jx (jr ?_)))))))))))
 refine jm Z (jm Z (jm Z (jm Z (jc E68 Z Z (kMake_ct (f := f) _ _ _ (hmk _ (ix_mem (by omega)))) (dc d0 dn) (kd kn) (fun _ => p0) (fun _ => p2) fun _ => jn (jbn (jx (jr (js (jadd Z Z (by omega)) (jm Z (jn ?_))))))))))
 exact jag (k + 1) (by dsimp only; omega) (dc d0 (dc d1 dn)) (kd kn) ⟨Z,Z,Z,Z,Z,Z,eqI (by omega),trivial⟩
 refine jex (jtx (jtx (jbh (jx (jq (jr (jm Z (js (jln U32 d1 Z) (jm Z (jn (jx ?_)))))))))))
 refine jb ?_
 refine jlp (u2 fun (k : Nat) (L2 : List (Int × Value)) => ⟨k ≤ l.length ∧ L2 = insA b p (l.take k) L,[da rFunc (vFunc f cf) f,dv (rL (rI .i64)) a1 l],[bx g0 99 [.int .i64 f.Params,cf,.map (some gm)],im gm L2],[(0,.pointer (some ⟨g0,0,none⟩)),(2,.int .i64 b),(3,.int .i64 p),(24,a1),(25,.int .i64 (↑(List.length l))),(26,.int .i64 (↑k))],l.length - k⟩) (0,L) ⟨by dsimp only; omega,rfl⟩ (dc d0 (dc d1 dn)) (kd kn) ⟨Z,Z,Z,Z,Z,eqI (by omega),trivial⟩ ?_
 rintro ⟨k,L2⟩; dsimp only [u2]; rintro ⟨hk,hL2⟩
 refine jq (jr (js (jlss Z Z) (jn (jx (jq ?_)))))
 refine jif Z (fun hc2 => ?_) (fun hc2 => ?_)
 refine jsk (jx (jq (jb (jq (jr (js (jix U32 Z3 d1 Z Z Z (by omega)) (js (jlI (dix d1 k (by omega)) O3 Z) (ja Z (jn (jx (jr ?_)))))))))))
 refine jm Z (jm Z (jm Z (jm Z (jc E69 Z Z (kOnce_ct (f := f) _ _ _ (by rw [hL2]; exact ins_free (by omega) hnd hno)) (dc d0 dn) (kd kn) (fun _ => p0) (fun _ => p2) fun _ => jn (jbn (jx (jr (js (jadd Z Z (by omega)) (jm Z (jn ?_))))))))))
 exact jag (k + 1,upM L2 (ix l k) (wv b p)) ⟨by dsimp only; omega,by dsimp only; rw [hL2,ins_nx (by omega)]⟩ (dc d0 (dc d1 dn)) (kd kn) ⟨Z,Z,Z,Z,Z,eqI (by omega),trivial⟩
 refine jex (jtx (jtx (jbh ?_)))
 obtain rfl : L2 = insA b p l L := by rw [hL2,List.take_of_length_le (by omega)]
 exact jd0 Z () Z dn (fun _ _ => (kd kn))
theorem shapes_ct  : Tr Try.prog 60 #[] [] [] (fun g : Nat => .map (some g)) (fun _ => []) (fun _ g => [im g shL]) := by
 refine jenter (args := []) Try.func60 rfl rfl rfl fun w0 X => ?_
 refine jq (jr (ja Z (jn (jx (jq (jr (jmm fun g1 => js (jbu (v := .agg #[.int .i64 0,.int .i64 0,.int .i64 1,.int .i64 1]) Z (fun _ => by kernel_rfl)) (jin U107 U3 k0 Z Z Z Z (js (jbu (v := .agg #[.int .i64 1,.int .i64 1,.int .i64 2,.int .i64 2]) Z (fun _ => by kernel_rfl)) (jin U107 U3 k0 Z Z Z Z ?_))))))))))
 refine js (jbu (v := .agg #[.int .i64 1,.int .i64 1,.int .i64 2,.int .i64 65]) Z (fun _ => by kernel_rfl)) (jin U107 U3 k0 Z Z Z Z (js (jbu (v := .agg #[.int .i64 0,.int .i64 1,.int .i64 0,.int .i64 0]) Z (fun _ => by kernel_rfl)) (jin U107 U3 k0 Z Z Z Z (js (jbu (v := .agg #[.int .i64 0,.int .i64 0,.int .i64 0,.int .i64 0]) Z (fun _ => by kernel_rfl)) (jin U107 U3 k0 Z Z Z Z (jm Z (ja Z (jn (jx (jrt ?_))))))))))
 exact jr1 Z Z g1 Z dn (fun _ _ => (kc k0 kn))
set_option maxHeartbeats 800000 in
theorem kShape_ct {g0 gm : Nat} {cf : Value} {f : D.Func} {L : List (Int × Value)} (hG : GoodF f) (hL0 : L = []) : Tr Try.prog 55 #[.pointer (some ⟨g0,0,none⟩)] [da rFunc (vFunc f cf) f] [bx g0 99 [.int .i64 f.Params,cf,.map (some gm)],im gm L] (fun _ : Unit => .tuple #[]) (fun _ => []) (fun _ _ => [bx g0 99 [.int .i64 f.Params,cf,.map (some gm)],im gm (bkA f.Blocks f.Blocks.length)]) := by
 refine jenter (args := [.pointer (some ⟨g0,0,none⟩)]) Try.func55 rfl rfl rfl fun w0 X => ?_
 subst hL0
 refine jq (jr (jm Z (js (jnil Z) (js (jf F99_0 Z) (js (jf F30_1 Z) (js (jl k0 O28 Z Z) (jdq (rFunc.cB d0) fun q1 w1 => js (jln U28 (rFunc.cB d0) Z) (jm Z (jn (jx ?_))))))))))
 refine jb ?_
 refine jlp (u2 fun (k : Nat) (L1 : List (Int × Value)) => ⟨k ≤ f.Blocks.length ∧ L1 = bkA f.Blocks k,[da rFunc (vFunc f cf) f],[bx g0 99 [.int .i64 f.Params,cf,.map (some gm)],im gm L1],[(0,.pointer (some ⟨g0,0,none⟩)),(18,cf),(19,.int .i64 (↑(List.length f.Blocks))),(20,.int .i64 (↑k))],f.Blocks.length - k⟩) (0,[]) ⟨by dsimp only; omega,rfl⟩ (dc d0 dn) (kd kn) ⟨Z,Z,Z,eqI (by omega),trivial⟩ ?_
 rintro ⟨k,L1⟩; dsimp only [u2]; rintro ⟨hk,hL1⟩
 refine jq (jr (js (jlss Z Z) (jn (jx (jq ?_)))))
 refine jif Z (fun hc1 => ?_) (fun hc1 => ?_)
 have hb : k < f.Blocks.length := by omega
 obtain ⟨sh,hs1,hs2,hs3⟩ := hG.tm k hb
 refine jsk (jx (jq (jb (jq (jr (jm Z (js (jix U28 Z52 (rFunc.cB d0) Z Z Z (by omega)) (jA4 sBlock (jlA (dix (rFunc.cB d0) k (by omega)) A52 Z52 Z) fun c24a c24b c24c c24d => jalc J52 Z fun g3 => ja Z (jdq (rBlock.cP d0) fun q3 w3 => ?_)))))))))
 refine jdq (rBlock.cI d0) fun q4 w4 => jdq (rBlock.c_Term_Args d0) fun q5 w5 => jdq (rBlock.c_Term_To d0) fun q6 w6 => jsta k0 Z52 Z Z Z ⟨w3.one,w4.one,Z,w5.one,w6.one,Z,trivial⟩ (saf Z) (jn (jx (jq (jq (jr (js (jf F52_0 Z) (js (jl k0 O50 Z Z) (js (jln U50 (rBlock.cP d0) Z) ?_))))))))
 refine jm Z (jn (jx (jb ?_)))
 refine jlp (u2 fun (i : Nat) (L2 : List (Int × Value)) => ⟨i ≤ (ix f.Blocks k).Phis.length ∧ L2 = phA k (ix f.Blocks k).Phis L1 i,[da rBlock (vBlock (ix f.Blocks k) (c24a,c24b,c24c,c24d)) (ix f.Blocks k),da rFunc (vFunc f cf) f],[bx g3 52 [c24a,c24b,.int .i64 (((ix f.Blocks k).Term).Kind),c24c,c24d,.int .i32 (((ix f.Blocks k).Term).Imm)],bx g0 99 [.int .i64 f.Params,cf,.map (some gm)],im gm L2],[(0,.pointer (some ⟨g0,0,none⟩)),(2,.int .i64 (↑k)),(3,.pointer (some ⟨g3,0,none⟩)),(18,cf),(19,.int .i64 (↑(List.length f.Blocks))),(20,.int .i64 (↑k)),(26,c24a),(27,.int .i64 (↑(List.length ((ix f.Blocks k).Phis)))),(28,.int .i64 (↑i))],(ix f.Blocks k).Phis.length - i⟩) (0,L1) ⟨by dsimp only; omega,rfl⟩ (dc d0 (dc d1 dn)) (kd (kc k0 kn)) ⟨Z,Z,Z,Z,Z,Z,Z,Z,eqI (by omega),trivial⟩ ?_
 rintro ⟨i,L2⟩; dsimp only [u2]; rintro ⟨hi,hL2⟩
 refine jq (jr (js (jlss Z Z) (jn (jx (jq ?_)))))
 refine jif Z (fun hc2 => ?_) (fun hc2 => ?_)
 have hp9 := hG.pha hb (i := i) (by omega)
 refine jsk (jx (jq (jb (jq (jr (jm Z (js (jix U50 Z57 (rBlock.cP d0) Z Z Z (by omega)) (jA sPhi (jlA (dix (rBlock.cP d0) i (by omega)) A57 Z57 Z) fun c32 => jalc J57 Z fun g5 => ja Z (jdq (rPhi.c_In d0) fun q8 w8 => ?_)))))))))
 refine jsta k0 Z57 Z Z Z ⟨Z,w8.one,trivial⟩ (saf Z) (jn (jx (jr (jm Z (js (jf F57_0 Z) (js (jl k0 O3 Z Z) (jlit (r := (rI .i64)) (l := [(ix ((ix f.Blocks k).Phis) i).Dst]) U32 I3 (by decide) Z Z Z (lV Z Z (wI (rPhi.W_Dst d0)) ln) fun g36 => jm Z (jm Z (js (jsub Z Z (by omega)) (jfz k0 (by (try simp) <;> omega) ?_))))))))))
 refine jc E57 Z Z (kAll_ct (f := f) _ _ hp9.1 hp9.2.1 (by rw [hL2,hL1]; exact hp9.2.2)) (dc d3 (dc d0 dn)) (kc k2 (kc k2 kn)) (fun _ => p0) (fun _ => p2) fun _ => jn (jbn (jx (jr (js (jadd Z Z (by omega)) (jm Z (jn ?_))))))
 exact jag (i + 1,insA ((k : Nat) : Int) ((-1) - ((i : Nat) : Int)) ([(ix ((ix f.Blocks k).Phis) i).Dst]) L2) ⟨by dsimp only; omega,by dsimp only; rw [hL2]; rfl⟩ (dc d2 (dc d3 dn)) (kc k3 (kd kn)) ⟨Z,Z,Z,Z,Z,Z,Z,Z,eqI (by omega),trivial⟩
 refine jex (jtx (jtx (jbh (jx (jq (jq (jr (js (jf F52_1 Z) (js (jl k0 O35 Z Z) (js (jln U35 (rBlock.cI d0) Z) (jm Z ?_)))))))))))
 refine jn (jx (jb ?_))
 refine jlp (u2 fun (j : Nat) (L3 : List (Int × Value)) => ⟨j ≤ (ix f.Blocks k).Ins.length ∧ L3 = inA k (ix f.Blocks k).Ins L2 j,[da rBlock (vBlock (ix f.Blocks k) (c24a,c24b,c24c,c24d)) (ix f.Blocks k),da rFunc (vFunc f cf) f],[bx g3 52 [c24a,c24b,.int .i64 (((ix f.Blocks k).Term).Kind),c24c,c24d,.int .i32 (((ix f.Blocks k).Term).Imm)],bx g0 99 [.int .i64 f.Params,cf,.map (some gm)],im gm L3],[(0,.pointer (some ⟨g0,0,none⟩)),(2,.int .i64 (↑k)),(3,.pointer (some ⟨g3,0,none⟩)),(18,cf),(19,.int .i64 (↑(List.length f.Blocks))),(20,.int .i64 (↑k)),(43,c24b),(44,.int .i64 (↑(List.length ((ix f.Blocks k).Ins)))),(45,.int .i64 (↑j))],(ix f.Blocks k).Ins.length - j⟩) (0,L2) ⟨by dsimp only; omega,rfl⟩ (dc d0 (dc d1 dn)) (kd (kc k0 kn)) ⟨Z,Z,Z,Z,Z,Z,Z,Z,eqI (by omega),trivial⟩ ?_
 rintro ⟨j,L3⟩; dsimp only [u2]; rintro ⟨hj,hL3⟩
 refine jq (jr (js (jlss Z Z) (jn (jx (jq ?_)))))
 refine jif Z (fun hc3 => ?_) (fun hc3 => ?_)
 have hi9 := hG.ina hb (i := j) (by omega)
 have ho9 := hG.op k hb _ (ix_mem (l := (ix f.Blocks k).Ins) (i := j) (by omega))
 refine jsk (jx (jq (jb (jq (jr (jm Z (js (jix U35 Z34 (rBlock.cI d0) Z Z Z (by omega)) (jA sIns (jlA (dix (rBlock.cI d0) j (by omega)) A34 Z34 Z) fun c49 => jalc J34 Z fun g7 => ja Z (jdq (rIns.c_Args d0) fun q11 w11 => ?_)))))))))
 refine jsta k0 Z34 Z Z Z ⟨Z,Z,Z,w11.one,Z,trivial⟩ (saf Z) (jn (jx (jq (jr (js (jf F34_0 Z) (js (jl k0 O3 Z Z) (jcv E54 Z Z (within_ct ((ix ((ix f.Blocks k).Ins) j).Op) 1 18) dn kn (jm Z (jm Z (jc E53 Z Z (must_ct _ 10 ↑k ↑j (within_of ho9.1)) dn kn (fun _ => p0) (fun _ => p0) fun _ => jn ?_))))))))))
 refine jx (jq (jr (js (jf F34_0 Z) (js (jl k0 O3 Z Z) (jcv E58 Z Z (oper_ct ((ix ((ix f.Blocks k).Ins) j).Op)) dn kn (jm Z (js (jex' Z Z) (js (jex' Z Z) (ja Z (ja Z (jn ?_)))))))))))
 refine jx (jq (jr (js (jf F34_3 Z) (js (jl k0 O32 Z Z) (js (jln U32 (rIns.c_Args d0) Z) (jm Z (jm Z (jcv E54 Z Z (within_ct (↑(List.length ((ix ((ix f.Blocks k).Ins) j).Args))) ((operM ((ix ((ix f.Blocks k).Ins) j).Op)).1) ((operM ((ix ((ix f.Blocks k).Ins) j).Op)).2)) dn kn (jm Z (jm Z (jc E53 Z Z (must_ct _ 10 ↑k ↑j (within_of ho9.2)) dn kn (fun _ => p0) (fun _ => p0) fun _ => ?_)))))))))))
 refine jn (jx (jr (jm Z (js (jla k0 A34 Z34 Z Z Z) (jcd E59 Z Z kMakes_ct (dc d0 dn) kn fun v73 q12 w12 => jm Z (jm Z (jc E57 Z Z (kAll_ct (f := f) _ _ hi9.1 hi9.2.1 (by rw [hL3,hL2,hL1,show i = (ix f.Blocks k).Phis.length by omega]; exact hi9.2.2)) (dc d3 (dc d0 dn)) (kc k2 (kc k2 kn)) (fun _ => p0) (fun _ => p2) fun _ => jn (jbn (jx ?_)))))))))
 refine jr (js (jadd Z Z (by omega)) (jm Z (jn ?_)))
 exact jag (j + 1,insA ((k : Nat) : Int) ((j : Nat) : Int) (makes3 (ix ((ix f.Blocks k).Ins) j)) L3) ⟨by dsimp only; omega,by dsimp only; rw [hL3]; rfl⟩ (dc d2 (dc d3 dn)) (kc k3 (kd kn)) ⟨Z,Z,Z,Z,Z,Z,Z,Z,eqI (by omega),trivial⟩
 refine jex (jtx (jtx (jbh (jx (jq ?_)))))
 refine jjo (fun (gS : Nat) => ⟨0 ≤ gS,[da rBlock (vBlock (ix f.Blocks k) (c24a,c24b,c24c,c24d)) (ix f.Blocks k),da rFunc (vFunc f cf) f],[bx gS 105 [.int .i64 sh.1,.int .i64 sh.2.1,.int .i64 sh.2.2.1,.int .i64 sh.2.2.2],bx g3 52 [c24a,c24b,.int .i64 (((ix f.Blocks k).Term).Kind),c24c,c24d,.int .i32 (((ix f.Blocks k).Term).Imm)],bx g0 99 [.int .i64 f.Params,cf,.map (some gm)],im gm L3],[(0,.pointer (some ⟨g0,0,none⟩)),(2,.int .i64 (((k : Nat) : Int))),(3,.pointer (some ⟨g3,0,none⟩)),(10,.pointer (some ⟨gS,0,none⟩)),(11,.bool true),(18,cf),(19,.int .i64 (((List.length f.Blocks : Nat) : Int))),(20,.int .i64 (((k : Nat) : Int)))]⟩) ?_ ?_
 refine jany false (.a 1 (.a 2 (.a 3 (.w 0 8 (.w 4 8 (.a 5 (.a 6 (.a 7 (.o 8 (.o 9 (.a 10 .e)))))) (.o 4 (.a 5 (.a 6 (.a 7 (.o 9 (.a 10 .e))))))) (.o 0 (.o 4 (.a 5 (.a 6 (.a 7 (.o 9 (.a 10 .e))))))))))) Mixed (by kernel_rfl) (kc k0 kn) fun F15 => jy Z (jf F52_2 Z) (jy Z (jf F37_0 Z) (jy Z (jl k0 O3 Z Z) ?_))
 refine jyw Z Z ?_ ?_
 refine jc E60 Z Z shapes_ct dn kn (fun _ => p0) (fun _ => p1) fun g79 => jyn d0 (kc k1 kn) ?_
 refine jyw Z Z ?_ ?_
 refine js (jlkoS U107 U3 J105 k0 Z Z (shL_at hs1)) (jyn d0 (kc k1 kn) (jy Z (jmv Z) (jy Z (jex' Z Z) (jy Z (jex' Z Z) (jyo Z (jalc J105 Z fun g10 => jyn d0 (kc k2 kn) (jyo Z (jsta k0 Z105 Z Z Z ⟨Z,Z,Z,Z,trivial⟩ (saf Z) (jyn d0 (kc k2 kn) (jy Z (jas Z) ?_))))))))))
 refine jyd ?_
 exact jje g10 (Nat.zero_le _) (dc d4 (dc d5 dn)) (kc k0 (kc k1 (kc k1 (kc k1 kn)))) ⟨Z,Z,Z,Z,Z,Z,Z,Z,trivial⟩
 refine jalc J105 Z fun g10 => jyn d0 (kc k2 kn) (jyo Z (js (jlkoS U107 U3 J105 k1 Z Z (shL_at hs1)) (jyn d0 (kc k2 kn) (jy Z (jmv Z) (jy Z (jex' Z Z) (jy Z (jex' Z Z) (jyo Z (jsta k0 Z105 Z Z Z ⟨Z,Z,Z,Z,trivial⟩ (saf Z) (jyn d0 (kc k2 kn) (jy Z (jas Z) ?_))))))))))
 refine jyd ?_
 exact jje g10 (Nat.zero_le _) (dc d4 (dc d5 dn)) (kc k0 (kc k1 (kc k1 (kc k1 kn)))) ⟨Z,Z,Z,Z,Z,Z,Z,Z,trivial⟩
 refine jalc J105 Z fun g10 => jyn d0 (kc k1 kn) (jyo Z (jc E60 Z Z shapes_ct dn kn (fun _ => p0) (fun _ => p1) fun g79 => jyn d0 (kc k2 kn) (jyo Z (js (jlkoS U107 U3 J105 k0 Z Z (shL_at hs1)) (jyn d0 (kc k2 kn) (jy Z (jmv Z) (jy Z (jex' Z Z) (jy Z (jex' Z Z) (jyo Z ?_)))))))))
 refine jsta k1 Z105 Z Z Z ⟨Z,Z,Z,Z,trivial⟩ (saf Z) (jyn d0 (kc k2 kn) (jy Z (jas Z) (jyd ?_)))
 exact jje g10 (Nat.zero_le _) (dc d4 (dc d5 dn)) (kc k0 (kc k1 (kc k1 (kc k1 kn)))) ⟨Z,Z,Z,Z,Z,Z,Z,Z,trivial⟩
 rintro gS; dsimp only; rintro hgS
 refine jx (jq (jany false (.a 0 (.a 1 (.a 2 (.a 3 (.a 4 (.a 5 (.a 6 (.a 7 (.a 8 (.a 9 (.a 23 (.a 24 (.a 25 (.a 26 (.o 10 (.a 11 (.a 12 (.a 13 (.a 14 (.a 15 (.a 16 (.a 17 (.a 18 (.a 19 (.a 20 (.o 21 (.a 22 (.o 27 .e)))))))))))))))))))))))))))) Mixed (by kernel_rfl) (kd kn) fun F20 => jy Z (jmv Z) (jy Z (jmv Z) (jyk Z Z Z (.t _) (jf F52_2 Z) (jyk Z Z Z (.t _) (jf F37_1 Z) (jyk Z Z Z (.t _) (jl k1 O32 Z Z) (jyk Z Z Z (.t _) (jln U32 (rBlock.c_Term_Args d0) Z) (jyk Z Z Z (.t _) (jf F105_0 Z) (jyk Z Z Z (.t _) (jl k0 O3 Z Z) (jyk Z Z Z (.t _) (jf F105_1 Z) ?_))))))))))
 refine jyk Z Z Z (.t _) (jl k0 O3 Z Z) (jy Z (jmv Z) (jy Z (jf F52_1 Z) (jy Z (jl k1 O35 Z Z) (jy Z (jln U35 (rBlock.cI d0) Z) (jyo Z (jgk Z Z (.t _) (jcv E54 Z Z (within_ct (↑(List.length (((ix f.Blocks k).Term).Args))) sh.1 sh.2.1) dn kn (jyn d0 (kd kn) (jy Z (jand Z Z) (jy Z (jmv Z) (jyg Z Z Z (.t _) (fun hg => jf F52_2 Z) ?_)))))))))))
 refine jyg Z Z Z (.t _) (fun hg => jf F37_2 (evg Z hg)) (jyg Z Z Z (.t _) (fun hg => jl k1 O32 (evg Z hg) Z) (jyg Z Z Z (.t _) (fun hg => jln U32 (rBlock.c_Term_To d0) (evg Z hg)) (jyg Z Z Z (.t _) (fun hg => jf F105_2 Z) (jyg Z Z Z (.t _) (fun hg => jl k0 O3 (evg Z hg) Z) (jyg Z Z Z (.t _) (fun hg => jf F105_3 Z) (jyg Z Z Z (.t _) (fun hg => jl k0 O3 (evg Z hg) Z) (jyo Z (jgc Z Z (.t _) E54 Z (fun hg => evl3 (evg Z hg) (evg Z hg) (evg Z hg)) (fun hg => (within_ct (↑(List.length (((ix f.Blocks k).Term).To))) sh.2.2.1 sh.2.2.2)) (fun hg => dn) kn p0 (jyn d0 (kd kn) (jy Z (jand Z Z) (jyo Z ?_)))))))))))
 refine jc E53 Z Z (must_ct _ 10 ↑k (↑(List.length ((ix f.Blocks k).Ins))) (by simp [within_of hs2,within_of hs3])) dn kn (fun _ => p0) (fun _ => p0) fun _ => jyn d0 (kd kn) (jyd (jx (jq (jr (js (jf F52_2 Z) (js (jf F37_2 Z) (js (jl k1 O32 Z Z) (js (jln U32 (rBlock.c_Term_To d3) Z) (jm Z (jn ?_))))))))))
 refine jx (jb ?_)
 refine jlp (fun (m : Nat) => ⟨m ≤ (ix f.Blocks k).Term.To.length,[da rBlock (vBlock (ix f.Blocks k) (c24a,c24b,c24c,c24d)) (ix f.Blocks k),da rFunc (vFunc f cf) f],[bx g3 52 [c24a,c24b,.int .i64 (((ix f.Blocks k).Term).Kind),c24c,c24d,.int .i32 (((ix f.Blocks k).Term).Imm)],bx g0 99 [.int .i64 f.Params,cf,.map (some gm)],im gm L3],[(0,.pointer (some ⟨g0,0,none⟩)),(2,.int .i64 (↑k)),(3,.pointer (some ⟨g3,0,none⟩)),(18,cf),(19,.int .i64 (↑(List.length f.Blocks))),(20,.int .i64 (↑k)),(116,c24d),(117,.int .i64 (↑(List.length (((ix f.Blocks k).Term).To)))),(118,.int .i64 (↑m))],(ix f.Blocks k).Term.To.length - m⟩) 0 (Nat.zero_le _) (dc d3 (dc d4 dn)) (kc k1 (kc k1 (kc k1 kn))) ⟨Z,Z,Z,Z,Z,Z,Z,Z,eqI (by omega),trivial⟩ ?_
 rintro m; dsimp only; rintro hm
 refine jq (jr (js (jlss Z Z) (jn (jx (jq ?_)))))
 refine jif Z (fun hc4 => ?_) (fun hc4 => ?_)
 have ht9 := hG.to k hb _ (ix_mem (l := (ix f.Blocks k).Term.To) (i := m) (by omega))
 refine jsk (jx (jq (jb (jq (jr (js (jix U32 Z3 (rBlock.c_Term_To d0) Z Z Z (by omega)) (js (jlI (dix (rBlock.c_Term_To d0) m (by omega)) O3 Z) (ja Z (jn (jx (jany false (.a 0 (.a 1 (.a 2 (.a 3 (.a 4 (.a 5 (.a 6 (.a 7 (.a 9 (.a 10 (.a 11 (.a 12 (.o 8 (.o 13 .e)))))))))))))) Mixed (by kernel_rfl) (kd kn) fun F24 => ?_)))))))))))
 refine jy Z (jmv Z) (jy Z (jmv Z) (jy Z (jnil Z) (jy Z (jf F99_0 Z) (jy Z (jf F30_1 Z) (jy Z (jl k1 O28 Z Z) (jy Z (jln U28 (rFunc.cB d1) Z) (jy Z (jsub Z Z (by omega)) (jy Z (jmv Z) (jy Z (jf F52_1 Z) (jy Z (jl k0 O35 Z Z) (jy Z (jln U35 (rBlock.cI d0) Z) ?_)))))))))))
 refine jyo Z (jcv E54 Z Z (within_ct (ix (((ix f.Blocks k).Term).To) m) 1 _) dn kn (jyn d0 (kd kn) (jyo Z (jc E53 Z Z (must_ct _ 14 ↑k (↑(List.length ((ix f.Blocks k).Ins))) (within_of (by omega))) dn kn (fun _ => p0) (fun _ => p0) fun _ => jyn d0 (kd kn) (jyd (jbn (jx (jr (js (jadd Z Z (by omega)) (jm Z ?_))))))))))
 refine jn ?_
 exact jag (m + 1) (by dsimp only; omega) (dc d2 (dc d3 dn)) (kd (kc k0 kn)) ⟨Z,Z,Z,Z,Z,Z,Z,Z,eqI (by omega),trivial⟩
 refine jex (jtx (jtx (jbh (jbn (jx (jr (js (jadd Z Z (by omega)) (jm Z (jn ?_)))))))))
 exact jag (k + 1,L3) ⟨by dsimp only; omega,by dsimp only; rw [hL3,hL2,hL1,show i = (ix f.Blocks k).Phis.length by omega,show j = (ix f.Blocks k).Ins.length by omega]; rfl⟩ (dc d1 dn) (kc k1 (kc k1 kn)) ⟨Z,Z,Z,eqI (by omega),trivial⟩
 refine jex (jtx (jtx (jbh ?_)))
 obtain rfl : L1 = bkA f.Blocks f.Blocks.length := by rw [hL1,show k = f.Blocks.length by omega]
 exact jd0 Z () Z dn (fun _ _ => (kd kn))
end Go.Proofs.Ytmfkkodnghambaa
namespace Go.Proofs.Ytmfkkodnghambaa
open Go.JE
theorem A30 : ∃ d,Try.prog.underlying 30 = some d ∧ (match d with | .struct _ | .array _ _ => true | _ => false) = true := ⟨_,Try.underlying30,rfl⟩
theorem E61 : Ent Try.prog 61 := ⟨_,Try.func61,by kernel_rfl,by kernel_rfl⟩
theorem E63 : Ent Try.prog 63 := ⟨_,Try.func63,by kernel_rfl,by kernel_rfl⟩
theorem E65 : Ent Try.prog 65 := ⟨_,Try.func65,by kernel_rfl,by kernel_rfl⟩
theorem E66 : Ent Try.prog 66 := ⟨_,Try.func66,by kernel_rfl,by kernel_rfl⟩
theorem E67 : Ent Try.prog 67 := ⟨_,Try.func67,by kernel_rfl,by kernel_rfl⟩
theorem F115_0 : Fld Try.prog 115 0 0 := ⟨_,_,Try.underlying115,rfl,rfl,1,(by unfold Sz; kernel_rfl),by decide⟩
theorem F115_1 : Fld Try.prog 115 1 1 := ⟨_,_,Try.underlying115,rfl,rfl,1,(by unfold Sz; kernel_rfl),by decide⟩
theorem F54_0 : Fld Try.prog 54 0 0 := ⟨_,_,Try.underlying54,rfl,rfl,1,(by unfold Sz; kernel_rfl),by decide⟩
theorem F54_1 : Fld Try.prog 54 1 1 := ⟨_,_,Try.underlying54,rfl,rfl,1,(by unfold Sz; kernel_rfl),by decide⟩
theorem F57_1 : Fld Try.prog 57 1 1 := ⟨_,_,Try.underlying57,rfl,rfl,1,(by unfold Sz; kernel_rfl),by decide⟩
theorem O55 : One Try.prog 55 := ⟨_,Try.underlying55,rfl⟩
theorem O96 : One Try.prog 96 := ⟨_,Try.underlying96,rfl⟩
theorem Z30 : Sz Try.prog 30 2 := by unfold Sz; kernel_rfl
theorem J54 : (Try.prog.info? 54).bind (·.zero) = some (.agg #[.int .i64 0,.int .i64 0]) := by kernel_rfl
set_option maxRecDepth 4000
theorem kUse_ct {g0 gm : Nat} {cf : Value} {f : D.Func} {L : List (Int × Value)} (v : Int) (b : Int) (p : Int) (a : Int) (t : Int) {g5 : Nat} {vi : Value} {idom : List Int} {g6 : Nat} (hG : GoodF f) (hL0 : L = bkA f.Blocks f.Blocks.length) (hD : DomG (graphF f) idom) (hb : 0 ≤ b ∧ b < f.Blocks.length) (hU : US f v b.toNat a) : Tr Try.prog 66 #[.int .i64 v,.int .i64 b,.int .i64 p,.int .i64 a,.int .i64 t,.pointer (some ⟨g5,0,none⟩),.pointer (some ⟨g6,0,none⟩)] [da rFunc (vFunc f cf) f,dv (rL (rI .i64)) vi idom] [bx g0 99 [.int .i64 f.Params,cf,.map (some gm)],im gm L,bx g5 96 [.pointer (some ⟨g0,0,none⟩)],bx g6 32 [vi]] (fun _ : Unit => .tuple #[]) (fun _ => []) (fun _ _ => [bx g0 99 [.int .i64 f.Params,cf,.map (some gm)],im gm (bkA f.Blocks f.Blocks.length),bx g5 96 [.pointer (some ⟨g0,0,none⟩)],bx g6 32 [vi]]) := by
 refine jenter (args := [.int .i64 v,.int .i64 b,.int .i64 p,.int .i64 a,.int .i64 t,.pointer (some ⟨g5,0,none⟩),.pointer (some ⟨g6,0,none⟩)]) Try.func66 rfl rfl rfl fun w0 X => ?_
 subst hL0
 refine jq (jq (jr (jm Z (js (jgeq Z Z) (jm Z (jg Z Z (.t _) (fun hg => jmv Z) (jg Z Z (.t _) (fun hg => jl k2 O96 Z Z) (jg Z Z (.t _) (fun hg => jnil (evg Z hg)) (jg Z Z (.t _) (fun hg => jf F99_0 (evg Z hg)) (jg Z Z (.t _) (fun hg => jf F30_0 (evg Z hg)) (jg Z Z (.t _) (fun hg => jl k0 O3 (evg Z hg) Z) ?_)))))))))))
 refine jg Z Z (.t _) (fun hg => jlss (evg Z hg) (evg Z hg)) (js (jand Z Z) (jn (jx ?_)))
 refine jif Z (fun hc1 => ?_) (fun hc1 => ?_)
 refine jrt (jtr ?_)
 exact jr0 Z () Z dn (fun _ _ => (kd (kd kn)))
 obtain ⟨wb,wp,hpos,hor⟩ := hU.resolve_left (fun h9 => by simp [h9.1,h9.2] at hc1)
 have hat := hG.once.at hpos _ hpos.1
 have hor2 := use_ok hb hD hpos hor
 refine jsk (jx (jq (jr (js (jl k2 O96 Z Z) (js (jnil Z) (js (jf F99_1 Z) (js (jl k0 O97 Z Z) (jm Z (js (jlkoS U97 U3 J115 k1 Z Z hat) (jm Z (js (jex' Z Z) ?_)))))))))))
 refine js (jex' Z Z) (jalc J115 Z fun g12 => jsta k0 Z115 Z Z Z ⟨Z,Z,trivial⟩ (saf Z) (ja Z (jn (jx (jq (jr (jm Z (jm Z (jk Z Z (.t _) (jf F115_0 Z) (jk Z Z (.t _) (jl k0 O3 Z Z) ?_))))))))))
 refine jk Z Z (.t _) (jmv Z) (jk Z Z (.t _) (jeql Z Z) (jk Z Z (.t _) (jmv Z) (jg Z Z (.t _) (fun hg => jf F115_1 Z) (jg Z Z (.t _) (fun hg => jl k0 O3 (evg Z hg) Z) (jg Z Z (.t _) (fun hg => jmv Z) (jg Z Z (.t _) (fun hg => jlss (evg Z hg) (evg Z hg)) (jg Z Z (.t _) (fun hg => jmv (evg Z hg)) (jg Z Z (.gf _ _) (fun hg => jf F115_1 Z) (jg Z Z (.gf _ _) (fun hg => jl k0 O3 (evg Z hg) Z) (jg Z Z (.gf _ _) (fun hg => jlss (evg Z hg) Z) (jg Z Z (.t _) (fun hg => jor2 hg Z Z) ?_)))))))))))
 refine jk Z Z (.t _) (jand Z Z) (jk Z Z (.t _) (jmv Z) (jg Z Z (.f _) (fun hg => jf F115_0 Z) (jg Z Z (.f _) (fun hg => jl k0 O3 (evg Z hg) Z) (jg Z Z (.f _) (fun hg => jmv Z) (jg Z Z (.f _) (fun hg => jneq (evg Z hg) (evg Z hg)) (jg Z Z (.f _) (fun hg => jmv (evg Z hg)) (jg Z Z (.gt _ _) (fun hg => jl k4 O32 Z Z) (jg Z Z (.gt _ _) (fun hg => jf F115_0 Z) (jg Z Z (.gt _ _) (fun hg => jl k0 O3 (evg Z hg) Z) (jg Z Z (.gt _ _) (fun hg => jmv Z) (jdq d1 fun q1 w1 => ?_)))))))))))
 refine jgc Z Z (.gt _ _) E67 Z (fun hg => evl3 (evg Z hg) (evg Z hg) (evg Z hg)) (fun hg => (dominates_ct ↑wb b)) (fun hg => (dc d1 dn)) kn p0 (jg Z Z (.f _) (fun hg => jand2 hg Z Z) (jk Z Z (.t _) (jor Z Z) (js (jand Z Z) (ja Z (jn (jx (jr (jm Z (jm Z (jm Z (jc E53 Z Z (must_ct _ 13 t p (by rcases hor2 with ⟨h1,h2⟩ | ⟨h1,h2⟩ <;> simp [h1,h2])) dn kn (fun _ => p0) (fun _ => p0) fun _ => ?_)))))))))))
 refine jn ?_
 exact jd0 Z () Z dn (fun _ _ => (kc k1 (kc k1 (kc k1 (kc k1 kn)))))
theorem kIndex_ct {a0 : Value} {l : List Int} (v : Int) : Tv Try.prog 74 #[a0,.int .i64 v] [dv (rL (rI .i64)) a0 l] [] (.int .i64 (idzM l v)) := by
 refine jenter (args := [a0,.int .i64 v]) Try.func74 rfl rfl rfl fun w0 X => ?_
 refine jq (jr (ja Z (jn (jx (jq (jq (jr (jm Z (jdq d0 fun q1 w1 => js (jln U32 d0 Z) (jm Z ?_))))))))))
 refine jn (jx (jb ?_))
 refine jlp (fun (k : Nat) => ⟨k ≤ l.length ∧ idzM l v = idxA l v (l.length - k) k,[dv (rL (rI .i64)) a0 l],[],[(0,a0),(1,.int .i64 v),(7,.int .i64 (↑(List.length l))),(8,.int .i64 (↑k))],l.length - k⟩) 0 ⟨Nat.zero_le _,rfl⟩ (dc d0 dn) kn ⟨Z,Z,Z,eqI (by omega),trivial⟩ ?_
 rintro k; dsimp only; rintro ⟨hk,hix⟩
 refine jq (jr (js (jlss Z Z) (jn (jx (jq ?_)))))
 refine jif Z (fun hc1 => ?_) (fun hc1 => ?_)
 refine jsk (jx (jq (jb (jq (jr (jm Z (ja Z (jn (jx (jq (jr ?_)))))))))))
 refine jm Z (jm Z (jm Z (js (jix U32 Z3 d0 Z Z Z (by omega)) (js (jlI (dix d0 k (by omega)) O3 Z) (js (jeql Z Z) (jn (jx ?_)))))))
 refine jif Z (fun hc2 => ?_) (fun hc2 => ?_)
 refine jq (jr (jm Z (ja Z (jn (jx (jrt (jbr (jtr (jtr (jbr (jtr ?_)))))))))))
 exact jrI Z Z (by first | (rw [hix]; exact idxA_yes (by omega) hc2) | (rw [hix,show l.length - k = 0 by omega]; rfl))
 refine jsk (jbn (jx (jr (js (jadd Z Z (by omega)) (jm Z (jn ?_))))))
 exact jag (k + 1) ⟨by omega,by rw [hix]; exact idxA_no (by omega) hc2⟩ (dc d0 dn) kn ⟨Z,Z,Z,eqI (by omega),trivial⟩
 refine jex (jtx (jtx (jbh (jx (jq (jr (ja Z (jn (jx (jrt ?_))))))))))
 exact jrI Z Z (by first | (rw [hix]; exact idxA_yes (by omega) hc2) | (rw [hix,show l.length - k = 0 by omega]; rfl))
theorem kContains_ct {a0 : Value} {l : List Int} (v : Int) : Tv Try.prog 63 #[a0,.int .i64 v] [dv (rL (rI .i64)) a0 l] [] (.bool (conM l v)) := by
 refine jenter (args := [a0,.int .i64 v]) Try.func63 rfl rfl rfl fun w0 X => ?_
 refine jq (jr (ja Z (jn (jx (jq (jr (jm Z (jm Z (jdq d0 fun q1 w1 => jcv E74 Z Z (kIndex_ct v) (dc d0 dn) kn (js (jgeq Z Z) ?_))))))))))
 refine ja Z (jn (jx (jrt ?_)))
 exact jrB Z Z (by unfold conM; rfl)
set_option maxHeartbeats 2000000 in
theorem kUses_ct {g0 gm : Nat} {cf : Value} {f : D.Func} {L : List (Int × Value)} (hG : GoodF f) (hL0 : L = bkA f.Blocks f.Blocks.length) : Tr Try.prog 56 #[.pointer (some ⟨g0,0,none⟩)] [da rFunc (vFunc f cf) f] [bx g0 99 [.int .i64 f.Params,cf,.map (some gm)],im gm L] (fun _ : Unit => .tuple #[]) (fun _ => []) (fun _ _ => [bx g0 99 [.int .i64 f.Params,cf,.map (some gm)],im gm (bkA f.Blocks f.Blocks.length)]) := by
 refine jenter (args := [.pointer (some ⟨g0,0,none⟩)]) Try.func56 rfl rfl rfl fun w0 X => ?_
 subst hL0
 have hn := hG.gn
 have hw := hG.gw
 have hgl := graph_len f
 have hpl := preds_len (graphF f)
 refine jq (jr (jbox Z Z fun g1 => jn (jx (jq (jr (js (jl k0 O96 Z Z) (js (jnil Z) (js (jf F99_0 Z) (js (jla k1 A30 Z30 Z Z Z) (jcd E61 Z Z graphOf_ct (dc d0 dn) kn fun v27 q1 w1 => ?_))))))))))
 refine ja Z (jn (jx (jq (jr (jm Z (jc E62 Z Z (order_ct hn hw) (dc d0 dn) kn (fun _ => p2) (fun _ => p0) fun c29 => jpu d1 fun hod => ja Z (jn (jx (jq ?_)))))))))
 refine jq (jr (js (jl k0 O96 Z Z) (js (jnil Z) (js (jf F99_0 Z) (js (jf F30_1 Z) (js (jl k1 O28 Z Z) (jdq (rFunc.cB d3) fun q5 w5 => js (jln U28 (rFunc.cB d3) Z) (jm Z (jn (jx ?_))))))))))
 refine jb ?_
 refine jlp (fun (k : Nat) => ⟨k ≤ f.Blocks.length,[dv (rL (rI .i64)) c29.1 c29.2,dv (rL (rL (rI .i64))) v27 (graphF f),da rFunc (vFunc f cf) f],[bx g1 96 [.pointer (some ⟨g0,0,none⟩)],bx g0 99 [.int .i64 f.Params,cf,.map (some gm)],im gm (bkA f.Blocks f.Blocks.length)],[(1,.pointer (some ⟨g1,0,none⟩)),(2,v27),(3,c29.1),(35,.int .i64 (↑(List.length f.Blocks))),(36,.int .i64 (↑k))],f.Blocks.length - k⟩) 0 (Nat.zero_le _) (dc d0 (dc d2 (dc d3 dn))) (kd (kc k0 kn)) ⟨Z,Z,Z,Z,eqI (by omega),trivial⟩ ?_
 rintro k; dsimp only; rintro hk
 refine jq (jr (js (jlss Z Z) (jn (jx (jq ?_)))))
 refine jif Z (fun hc1 => ?_) (fun hc1 => ?_)
 have hcn := con_mem ((hod.all (k : Int)).2 ⟨by omega,by omega⟩)
 refine jsk (jx (jq (jb (jq (jr (jm Z (ja Z (jn (jx (jr (jm Z ?_)))))))))))
 refine jm Z (jdq d0 fun q6 w6 => jcv E63 Z Z (kContains_ct ↑k) (dc d0 dn) kn (jm Z (jc E53 Z Z (must_ct _ 15 ↑k 0 hcn) dn kn (fun _ => p0) (fun _ => p0) fun _ => jn (jbn (jx (jr (js (jadd Z Z (by omega)) (jm Z (jn ?_)))))))))
 exact jag (k + 1) (by dsimp only; omega) (dc d0 (dc d1 (dc d2 dn))) (kd (kc k0 kn)) ⟨Z,Z,Z,Z,eqI (by omega),trivial⟩
 refine jex (jtx (jtx (jbh (jx (jq (jr (jm Z (jcd E64 Z Z (preds_ct hn.2) (dc d1 dn) kn fun v46 q7 w7 => jm Z (jc E65 Z Z (idom_ct hn hw) (dc d2 dn) kn (fun _ => p2) (fun _ => p0) fun c48 => jpu d1 fun hdg => ?_)))))))))
 refine jalc J32 Z fun g6 => ja Z (jdq d0 fun q11 w11 => jst k0 Z32 Z Z w11.one s0 (jn (jx (jq (jr (js (jmf2 Z Z) (ja Z (jn (jx ?_)))))))))
 refine jq (jr (js (jl k1 O96 Z Z) (js (jnil Z) (js (jf F99_0 Z) (js (jf F30_1 Z) (js (jl k2 O28 Z Z) (js (jln U28 (rFunc.cB d5) Z) (jm Z (jn (jx (jb ?_)))))))))))
 refine jlp (fun (k : Nat) => ⟨k ≤ f.Blocks.length,[dv (rL (rI .i64)) c48.1 c48.2,dv (rL (rL (rI .i64))) v46 (predsG (graphF f)),da rFunc (vFunc f cf) f],[bx g6 32 [c48.1],bx g1 96 [.pointer (some ⟨g0,0,none⟩)],bx g0 99 [.int .i64 f.Params,cf,.map (some gm)],im gm (bkA f.Blocks f.Blocks.length)],[(1,.pointer (some ⟨g1,0,none⟩)),(5,v46),(7,.func (.func 66) #[] #[.pointer (some ⟨g1,0,none⟩),.pointer (some ⟨g6,0,none⟩)]),(54,cf),(55,.int .i64 (↑(List.length f.Blocks))),(56,.int .i64 (↑k))],f.Blocks.length - k⟩) 0 (Nat.zero_le _) (dc d0 (dc d2 (dc d5 dn))) (kd (kd kn)) ⟨Z,Z,Z,Z,Z,eqI (by omega),trivial⟩ ?_
 rintro k; dsimp only; rintro hk
 refine jq (jr (js (jlss Z Z) (jn (jx (jq ?_)))))
 refine jif Z (fun hc2 => ?_) (fun hc2 => ?_)
 have hb : k < f.Blocks.length := by omega
 refine jsk (jx (jq (jb (jq (jr (jm Z (js (jix U28 Z52 (rFunc.cB d2) Z Z Z (by omega)) (jA4 sBlock (jlA (dix (rFunc.cB d2) k (by omega)) A52 Z52 Z) fun c60a c60b c60c c60d => jalc J52 Z fun g9 => ja Z (jdq (rBlock.cP d0) fun q13 w13 => ?_)))))))))
 refine jdq (rBlock.cI d0) fun q14 w14 => jdq (rBlock.c_Term_Args d0) fun q15 w15 => jdq (rBlock.c_Term_To d0) fun q16 w16 => jsta k0 Z52 Z Z Z ⟨w13.one,w14.one,Z,w15.one,w16.one,Z,trivial⟩ (saf Z) (jn (jx (jq (jq (jr (js (jf F52_0 Z) (js (jl k0 O50 Z Z) (js (jln U50 (rBlock.cP d0) Z) ?_))))))))
 refine jm Z (jn (jx (jb ?_)))
 refine jlp (fun (i : Nat) => ⟨i ≤ (ix f.Blocks k).Phis.length,[da rBlock (vBlock (ix f.Blocks k) (c60a,c60b,c60c,c60d)) (ix f.Blocks k),dv (rL (rI .i64)) c48.1 c48.2,dv (rL (rL (rI .i64))) v46 (predsG (graphF f)),da rFunc (vFunc f cf) f],[bx g9 52 [c60a,c60b,.int .i64 (((ix f.Blocks k).Term).Kind),c60c,c60d,.int .i32 (((ix f.Blocks k).Term).Imm)],bx g6 32 [c48.1],bx g1 96 [.pointer (some ⟨g0,0,none⟩)],bx g0 99 [.int .i64 f.Params,cf,.map (some gm)],im gm (bkA f.Blocks f.Blocks.length)],[(1,.pointer (some ⟨g1,0,none⟩)),(5,v46),(7,.func (.func 66) #[] #[.pointer (some ⟨g1,0,none⟩),.pointer (some ⟨g6,0,none⟩)]),(8,.int .i64 (↑k)),(9,.pointer (some ⟨g9,0,none⟩)),(54,cf),(55,.int .i64 (↑(List.length f.Blocks))),(56,.int .i64 (↑k)),(62,c60a),(63,.int .i64 (↑(List.length ((ix f.Blocks k).Phis)))),(64,.int .i64 (↑i))],(ix f.Blocks k).Phis.length - i⟩) 0 (Nat.zero_le _) (dc d0 (dc d1 (dc d2 (dc d3 dn)))) (kd (kd (kc k0 kn))) ⟨Z,Z,Z,Z,Z,Z,Z,Z,Z,Z,eqI (by omega),trivial⟩ ?_
 rintro i; dsimp only; rintro hi
 refine jq (jr (js (jlss Z Z) (jn (jx (jq ?_)))))
 refine jif Z (fun hc3 => ?_) (fun hc3 => ?_)
 have hi9 := hG.in1 hb (i := i) (by omega)
 refine jsk (jx (jq (jb (jq (jr (jm Z (js (jix U50 Z57 (rBlock.cP d0) Z Z Z (by omega)) (jA sPhi (jlA (dix (rBlock.cP d0) i (by omega)) A57 Z57 Z) fun c68 => jalc J57 Z fun g11 => ja Z (jdq (rPhi.c_In d0) fun q18 w18 => ?_)))))))))
 refine jsta k0 Z57 Z Z Z ⟨Z,w18.one,trivial⟩ (saf Z) (jn (jx (jq (jstl Mixed (by kernel_rfl) (jt (jmv Z) (jt (jgtr Z Z) (jt (jmv Z) (jtg Z Z (.t _) (fun hg => jf F57_1 Z) (jtg Z Z (.t _) (fun hg => jl k0 O55 (evg Z hg) Z) (jtg Z Z (.t _) (fun hg => jln U55 (rPhi.c_In d0) (evg Z hg)) (jtg Z Z (.t _) (fun hg => jmv Z) ?_)))))))))))
 refine jtg Z Z (.t _) (fun hg => jmv Z) (jtg Z Z (.t _) (fun hg => jix U109 Z32 d3 (evg Z hg) (evg Z hg) Z (by first | omega | (simp at hg; omega) | (simp only [List.length_set]; omega) | (simp; done))) (jtge (q := fun v => dv (rL (rI .i64)) v (ix (predsG (graphF f)) k)) Z Z (.t _) (fun hg => jlV (dix d3 k (by first | omega | (simp at hg; omega) | (simp only [List.length_set]; omega) | (simp; done))) O32 Z (evg Z hg)) fun v78 => jtg Z Z (.t _) (fun hg => jln U32 (d0.on hg) (evg Z hg)) (jtg Z Z (.t _) (fun hg => jeql (evg Z hg) (evg Z hg)) (jt (jand Z Z) (jt (jas Z) (jdn (jx (jq (jq (jr ?_))))))))))
 refine js (jf F57_1 Z) (js (jl k0 O55 Z Z) (js (jln U55 (rPhi.c_In d1) Z) (jm Z (jn (jx (jb ?_))))))
 refine jlp (u2 fun (j : Nat) (ft : Bool) => ⟨j ≤ (ix (ix f.Blocks k).Phis i).In.length ∧ ft = true,[da rPhi (vPhi (ix ((ix f.Blocks k).Phis) i) c68) (ix ((ix f.Blocks k).Phis) i),da rBlock (vBlock (ix f.Blocks k) (c60a,c60b,c60c,c60d)) (ix f.Blocks k),dv (rL (rI .i64)) c48.1 c48.2,dv (rL (rL (rI .i64))) v46 (predsG (graphF f)),da rFunc (vFunc f cf) f],[bx g11 57 [.int .i64 ((ix ((ix f.Blocks k).Phis) i).Dst),c68],bx g9 52 [c60a,c60b,.int .i64 (((ix f.Blocks k).Term).Kind),c60c,c60d,.int .i32 (((ix f.Blocks k).Term).Imm)],bx g6 32 [c48.1],bx g1 96 [.pointer (some ⟨g0,0,none⟩)],bx g0 99 [.int .i64 f.Params,cf,.map (some gm)],im gm (bkA f.Blocks f.Blocks.length)],[(1,.pointer (some ⟨g1,0,none⟩)),(5,v46),(7,.func (.func 66) #[] #[.pointer (some ⟨g1,0,none⟩),.pointer (some ⟨g6,0,none⟩)]),(8,.int .i64 (↑k)),(9,.pointer (some ⟨g9,0,none⟩)),(10,.int .i64 (↑i)),(11,.pointer (some ⟨g11,0,none⟩)),(12,.bool ft),(54,cf),(55,.int .i64 (↑(List.length f.Blocks))),(56,.int .i64 (↑k)),(62,c60a),(63,.int .i64 (↑(List.length ((ix f.Blocks k).Phis)))),(64,.int .i64 (↑i)),(83,c68),(84,.int .i64 (↑(List.length ((ix ((ix f.Blocks k).Phis) i).In)))),(85,.int .i64 (↑j))],(ix (ix f.Blocks k).Phis i).In.length - j⟩) (0,(decide (0 < ((k : Nat) : Int))) && (decide (((List.length ((ix ((ix f.Blocks k).Phis) i).In) : Nat) : Int) = ((List.length (ix (predsG (graphF f)) k) : Nat) : Int)))) ⟨Nat.zero_le _,by simp [hi9]⟩ (dc d1 (dc d2 (dc d3 (dc d4 (dc d5 dn))))) (kd (kd (kd kn))) ⟨Z,Z,Z,Z,Z,Z,Z,Z,Z,Z,Z,Z,Z,Z,Z,Z,eqI (by omega),trivial⟩ ?_
 rintro ⟨j,ft⟩; dsimp only [u2]; rintro ⟨hj,hft⟩
 refine jq (jr (js (jlss Z Z) (jn (jx (jq ?_)))))
 refine jif Z (fun hc4 => ?_) (fun hc4 => ?_)
 have hj9 := hG.in2 hb (i := i) (j := j) (by omega) (by omega)
 refine jsk (jx (jq (jb (jq (jr (jm Z (js (jix U55 Z54 (rPhi.c_In d0) Z Z Z (by omega)) (jA sIn (jlA (dix (rPhi.c_In d0) j (by omega)) A54 Z54 Z) fun _ => jalc J54 Z fun g14 => ja Z (jsta k0 Z54 Z Z Z ⟨Z,Z,trivial⟩ (saf Z) ?_)))))))))
 refine jn (jx (jstl Mixed (by kernel_rfl) (jt (jmv Z) (jt (jmv Z) (jtg Z Z (.t _) (fun hg => jf F54_0 Z) (jtg Z Z (.t _) (fun hg => jl k0 O3 (evg Z hg) Z) (jtg Z Z (.t _) (fun hg => jmv Z) (jtg Z Z (.t _) (fun hg => jmv Z) (jtg Z Z (.t _) (fun hg => jix U109 Z32 d4 (evg Z hg) (evg Z hg) Z (by first | omega | (simp at hg; omega) | (simp only [List.length_set]; omega) | (simp; done))) (jtge (q := fun v => dv (rL (rI .i64)) v (ix (predsG (graphF f)) k)) Z Z (.t _) (fun hg => jlV (dix d4 k (by first | omega | (simp at hg; omega) | (simp only [List.length_set]; omega) | (simp; done))) O32 Z (evg Z hg)) fun v97 => jtg Z Z (.t _) (fun hg => jmv Z) ?_))))))))))
 refine jtg Z Z (.t _) (fun hg => jix U32 Z3 (d0.on hg) (evg Z hg) (evg Z hg) Z (by first | omega | (simp at hg; omega) | (simp only [List.length_set]; omega) | (simp; done))) (jtg Z Z (.t _) (fun hg => jlI (dix (d0.on hg) j (by first | omega | (simp at hg; omega) | (simp only [List.length_set]; omega) | (simp; done))) O3 (evg Z hg)) (jtg Z Z (.t _) (fun hg => jeql (evg Z hg) (evg Z hg)) (jt (jand Z Z) (jt (jas Z) (jdn (jbn (jx (jr (js (jadd Z Z (by omega)) (jm Z (jn ?_)))))))))))
 exact jag (j + 1,ft && (decide ((ix ((ix ((ix f.Blocks k).Phis) i).In) j).From = ix (ix (predsG (graphF f)) k) j))) ⟨by dsimp only; omega,by simp [hft,hj9]⟩ (dc d2 (dc d3 (dc d4 (dc d5 (dc d6 dn))))) (kc k1 (kc k1 (kc k1 (kc k1 (kc k1 (kc k1 kn)))))) ⟨Z,Z,Z,Z,Z,Z,Z,Z,Z,Z,Z,Z,Z,Z,Z,Z,eqI (by omega),trivial⟩
 refine jex (jtx (jtx (jbh (jx (jq (jr (jm Z (jm Z (jm Z (js (jsub Z Z (by omega)) (jc E53 Z Z (must_ct _ 16 ↑k _ hft) dn kn (fun _ => p0) (fun _ => p0) fun _ => ?_)))))))))))
 refine jn (jx (jq (jr (js (jf F57_1 Z) (js (jl k0 O55 Z Z) (js (jln U55 (rPhi.c_In d0) Z) (jm Z (jn (jx (jb ?_))))))))))
 refine jlp (fun (j : Nat) => ⟨j ≤ (ix (ix f.Blocks k).Phis i).In.length,[da rPhi (vPhi (ix ((ix f.Blocks k).Phis) i) c68) (ix ((ix f.Blocks k).Phis) i),da rBlock (vBlock (ix f.Blocks k) (c60a,c60b,c60c,c60d)) (ix f.Blocks k),dv (rL (rI .i64)) c48.1 c48.2,dv (rL (rL (rI .i64))) v46 (predsG (graphF f)),da rFunc (vFunc f cf) f],[bx g9 52 [c60a,c60b,.int .i64 (((ix f.Blocks k).Term).Kind),c60c,c60d,.int .i32 (((ix f.Blocks k).Term).Imm)],bx g6 32 [c48.1],bx g1 96 [.pointer (some ⟨g0,0,none⟩)],bx g0 99 [.int .i64 f.Params,cf,.map (some gm)],im gm (bkA f.Blocks f.Blocks.length)],[(1,.pointer (some ⟨g1,0,none⟩)),(5,v46),(7,.func (.func 66) #[] #[.pointer (some ⟨g1,0,none⟩),.pointer (some ⟨g6,0,none⟩)]),(8,.int .i64 (↑k)),(9,.pointer (some ⟨g9,0,none⟩)),(10,.int .i64 (↑i)),(54,cf),(55,.int .i64 (↑(List.length f.Blocks))),(56,.int .i64 (↑k)),(62,c60a),(63,.int .i64 (↑(List.length ((ix f.Blocks k).Phis)))),(64,.int .i64 (↑i)),(110,c68),(111,.int .i64 (↑(List.length ((ix ((ix f.Blocks k).Phis) i).In)))),(112,.int .i64 (↑j))],(ix (ix f.Blocks k).Phis i).In.length - j⟩) 0 (Nat.zero_le _) (dc d0 (dc d1 (dc d2 (dc d3 (dc d4 dn))))) (kc k1 (kc k1 (kc k1 (kc k1 (kc k1 kn))))) ⟨Z,Z,Z,Z,Z,Z,Z,Z,Z,Z,Z,Z,Z,Z,eqI (by omega),trivial⟩ ?_
 rintro j; dsimp only; rintro hj
 refine jq (jr (js (jlss Z Z) (jn (jx (jq ?_)))))
 refine jif Z (fun hc5 => ?_) (fun hc5 => ?_)
 have hj9 := hG.in2 hb (i := i) (j := j) (by omega) (by omega)
 have hu9 := hG.up k hb _ (ix_mem (l := (ix f.Blocks k).Phis) (i := i) (by omega)) _ (ix_mem (i := j) (by omega))
 refine jsk (jx (jq (jb (jq (jr (js (jix U55 Z54 (rPhi.c_In d0) Z Z Z (by omega)) (jA sIn (jlA (dix (rPhi.c_In d0) j (by omega)) A54 Z54 Z) fun _ => jalc J54 Z fun g16 => jsta k0 Z54 Z Z Z ⟨Z,Z,trivial⟩ (saf Z) (jn (jx ?_)))))))))
 refine jany false (.a 0 (.a 1 (.a 2 (.a 3 (.a 4 (.a 5 (.a 6 (.a 7 (.a 8 (.a 9 (.a 10 (.a 11 (.a 12 (.a 13 (.a 14 (.a 15 (.a 16 (.a 17 (.a 18 (.o 19 .e)))))))))))))))))))) Mixed (by kernel_rfl) (kc k0 (kc k2 (kc k2 kn))) fun F23 => jy Z (jmv Z) (jy Z (jf F54_1 Z) (jy Z (jl k0 O3 Z Z) (jy Z (jf F54_0 Z) (jy Z (jl k0 O3 Z Z) (jy Z (jmv Z) (jy Z (jsub Z Z (by omega)) (jy Z (jl k1 O96 Z Z) (jy Z (jnil Z) (jy Z (jf F99_0 Z) (jy Z (jf F30_1 Z) ?_))))))))))
 refine jy Z (jl k2 O28 Z Z) (jy Z (jf F54_0 Z) (jy Z (jl k0 O3 Z Z) (jy Z (jix (i := (Int.toNat ((ix ((ix ((ix f.Blocks k).Phis) i).In) j).From))) U28 Z52 (rFunc.cB d5) Z Z (by omega) (by omega)) (jy Z (jf F52_1 Z) (jye (q := fun v => dv (rL rIns) v ((ix f.Blocks (Int.toNat ((ix ((ix ((ix f.Blocks k).Phis) i).In) j).From))).Ins)) Z (xlV (rBlock.A_Ins (dix (rFunc.cB d5) (Int.toNat ((ix ((ix ((ix f.Blocks k).Phis) i).In) j).From)) (by omega))) O35 Z Z) fun v132 => adq d0 fun q25 w25 => jy Z (jln U35 d0 Z) (jy Z (jmv Z) (jyo Z (jc E66 Z Z (kUse_ct (f := f) _ _ _ _ _ hG rfl hdg hj9.2 hu9) (dc d7 (dc d5 dn)) (kc k4 (kc k4 (kc k3 (kc k2 kn)))) (fun _ => p0) (fun _ => p4) fun _ => jyn d0 (kc k4 (kc k2 (kc k0 kn))) ?_))))))))
 refine jyd (jbn (jx (jr (js (jadd Z Z (by omega)) (jm Z (jn ?_))))))
 exact jag (j + 1) (by dsimp only; omega) (dc d3 (dc d4 (dc d5 (dc d6 (dc d7 dn))))) (kc k5 (kc k3 (kc k2 (kd kn)))) ⟨Z,Z,Z,Z,Z,Z,Z,Z,Z,Z,Z,Z,Z,Z,eqI (by omega),trivial⟩
 refine jex (jtx (jtx (jbh (jbn (jx (jr (js (jadd Z Z (by omega)) (jm Z (jn ?_)))))))))
 exact jag (i + 1) (by dsimp only; omega) (dc d1 (dc d2 (dc d3 (dc d4 dn)))) (kd (kd (kc k0 kn))) ⟨Z,Z,Z,Z,Z,Z,Z,Z,Z,Z,eqI (by omega),trivial⟩
 refine jex (jtx (jtx (jbh (jx (jq (jq (jr (js (jf F52_1 Z) (js (jl k0 O35 Z Z) (js (jln U35 (rBlock.cI d0) Z) (jm Z ?_)))))))))))
 refine jn (jx (jb ?_))
 refine jlp (fun (i : Nat) => ⟨i ≤ (ix f.Blocks k).Ins.length,[da rBlock (vBlock (ix f.Blocks k) (c60a,c60b,c60c,c60d)) (ix f.Blocks k),dv (rL (rI .i64)) c48.1 c48.2,dv (rL (rL (rI .i64))) v46 (predsG (graphF f)),da rFunc (vFunc f cf) f],[bx g9 52 [c60a,c60b,.int .i64 (((ix f.Blocks k).Term).Kind),c60c,c60d,.int .i32 (((ix f.Blocks k).Term).Imm)],bx g6 32 [c48.1],bx g1 96 [.pointer (some ⟨g0,0,none⟩)],bx g0 99 [.int .i64 f.Params,cf,.map (some gm)],im gm (bkA f.Blocks f.Blocks.length)],[(1,.pointer (some ⟨g1,0,none⟩)),(5,v46),(7,.func (.func 66) #[] #[.pointer (some ⟨g1,0,none⟩),.pointer (some ⟨g6,0,none⟩)]),(8,.int .i64 (↑k)),(9,.pointer (some ⟨g9,0,none⟩)),(54,cf),(55,.int .i64 (↑(List.length f.Blocks))),(56,.int .i64 (↑k)),(139,c60b),(140,.int .i64 (↑(List.length ((ix f.Blocks k).Ins)))),(141,.int .i64 (↑i))],(ix f.Blocks k).Ins.length - i⟩) 0 (Nat.zero_le _) (dc d0 (dc d1 (dc d2 (dc d3 dn)))) (kd (kd (kc k0 kn))) ⟨Z,Z,Z,Z,Z,Z,Z,Z,Z,Z,eqI (by omega),trivial⟩ ?_
 rintro i; dsimp only; rintro hi
 refine jq (jr (js (jlss Z Z) (jn (jx (jq ?_)))))
 refine jif Z (fun hc6 => ?_) (fun hc6 => ?_)
 refine jsk (jx (jq (jb (jq (jr (jm Z (js (jix U35 Z34 (rBlock.cI d0) Z Z Z (by omega)) (jA sIns (jlA (dix (rBlock.cI d0) i (by omega)) A34 Z34 Z) fun c145 => jalc J34 Z fun g18 => ja Z (jdq (rIns.c_Args d0) fun q28 w28 => ?_)))))))))
 refine jsta k0 Z34 Z Z Z ⟨Z,Z,Z,w28.one,Z,trivial⟩ (saf Z) (jn (jx (jq (jr (js (jf F34_3 Z) (js (jl k0 O32 Z Z) (js (jln U32 (rIns.c_Args d0) Z) (jm Z (jn (jx (jb ?_)))))))))))
 refine jlp (fun (j : Nat) => ⟨j ≤ (ix (ix f.Blocks k).Ins i).Args.length,[da rIns (vIns (ix ((ix f.Blocks k).Ins) i) c145) (ix ((ix f.Blocks k).Ins) i),da rBlock (vBlock (ix f.Blocks k) (c60a,c60b,c60c,c60d)) (ix f.Blocks k),dv (rL (rI .i64)) c48.1 c48.2,dv (rL (rL (rI .i64))) v46 (predsG (graphF f)),da rFunc (vFunc f cf) f],[bx g9 52 [c60a,c60b,.int .i64 (((ix f.Blocks k).Term).Kind),c60c,c60d,.int .i32 (((ix f.Blocks k).Term).Imm)],bx g6 32 [c48.1],bx g1 96 [.pointer (some ⟨g0,0,none⟩)],bx g0 99 [.int .i64 f.Params,cf,.map (some gm)],im gm (bkA f.Blocks f.Blocks.length)],[(1,.pointer (some ⟨g1,0,none⟩)),(5,v46),(7,.func (.func 66) #[] #[.pointer (some ⟨g1,0,none⟩),.pointer (some ⟨g6,0,none⟩)]),(8,.int .i64 (↑k)),(9,.pointer (some ⟨g9,0,none⟩)),(17,.int .i64 (↑i)),(54,cf),(55,.int .i64 (↑(List.length f.Blocks))),(56,.int .i64 (↑k)),(139,c60b),(140,.int .i64 (↑(List.length ((ix f.Blocks k).Ins)))),(141,.int .i64 (↑i)),(147,c145),(148,.int .i64 (↑(List.length ((ix ((ix f.Blocks k).Ins) i).Args)))),(149,.int .i64 (↑j))],(ix (ix f.Blocks k).Ins i).Args.length - j⟩) 0 (Nat.zero_le _) (dc d0 (dc d1 (dc d2 (dc d3 (dc d4 dn))))) (kc k1 (kc k1 (kc k1 (kc k1 (kc k1 kn))))) ⟨Z,Z,Z,Z,Z,Z,Z,Z,Z,Z,Z,Z,Z,Z,eqI (by omega),trivial⟩ ?_
 rintro j; dsimp only; rintro hj
 refine jq (jr (js (jlss Z Z) (jn (jx (jq ?_)))))
 refine jif Z (fun hc7 => ?_) (fun hc7 => ?_)
 have hu9 := hG.ui k hb i (by omega) _ (ix_mem (l := (ix (ix f.Blocks k).Ins i).Args) (i := j) (by omega))
 refine jsk (jx (jq (jb (jq (jr (js (jix U32 Z3 (rIns.c_Args d0) Z Z Z (by omega)) (js (jlI (dix (rIns.c_Args d0) j (by omega)) O3 Z) (ja Z (jn (jx (jr ?_)))))))))))
 refine jm Z (jm Z (jm Z (jm Z (jm Z (jm Z (jc E66 Z Z (kUse_ct (f := f) _ _ _ _ _ hG rfl hdg ⟨by omega,by omega⟩ hu9) (dc d4 (dc d2 dn)) (kc k3 (kc k3 (kc k2 (kc k1 kn)))) (fun _ => p0) (fun _ => p4) fun _ => jn (jbn (jx (jr (js (jadd Z Z (by omega)) ?_))))))))))
 refine jm Z (jn ?_)
 exact jag (j + 1) (by dsimp only; omega) (dc d0 (dc d1 (dc d2 (dc d3 (dc d4 dn))))) (kc k4 (kc k3 (kc k2 (kd kn)))) ⟨Z,Z,Z,Z,Z,Z,Z,Z,Z,Z,Z,Z,Z,Z,eqI (by omega),trivial⟩
 refine jex (jtx (jtx (jbh (jbn (jx (jr (js (jadd Z Z (by omega)) (jm Z (jn ?_)))))))))
 exact jag (i + 1) (by dsimp only; omega) (dc d1 (dc d2 (dc d3 (dc d4 dn)))) (kd (kd (kc k0 kn))) ⟨Z,Z,Z,Z,Z,Z,Z,Z,Z,Z,eqI (by omega),trivial⟩
 refine jex (jtx (jtx (jbh (jx (jq (jr (js (jf F52_2 Z) (js (jf F37_1 Z) (js (jl k0 O32 Z Z) (js (jln U32 (rBlock.c_Term_Args d0) Z) (jm Z ?_)))))))))))
 refine jn (jx (jb ?_))
 refine jlp (fun (j : Nat) => ⟨j ≤ (ix f.Blocks k).Term.Args.length,[da rBlock (vBlock (ix f.Blocks k) (c60a,c60b,c60c,c60d)) (ix f.Blocks k),dv (rL (rI .i64)) c48.1 c48.2,dv (rL (rL (rI .i64))) v46 (predsG (graphF f)),da rFunc (vFunc f cf) f],[bx g9 52 [c60a,c60b,.int .i64 (((ix f.Blocks k).Term).Kind),c60c,c60d,.int .i32 (((ix f.Blocks k).Term).Imm)],bx g6 32 [c48.1],bx g1 96 [.pointer (some ⟨g0,0,none⟩)],bx g0 99 [.int .i64 f.Params,cf,.map (some gm)],im gm (bkA f.Blocks f.Blocks.length)],[(1,.pointer (some ⟨g1,0,none⟩)),(5,v46),(7,.func (.func 66) #[] #[.pointer (some ⟨g1,0,none⟩),.pointer (some ⟨g6,0,none⟩)]),(8,.int .i64 (↑k)),(9,.pointer (some ⟨g9,0,none⟩)),(54,cf),(55,.int .i64 (↑(List.length f.Blocks))),(56,.int .i64 (↑k)),(164,c60c),(165,.int .i64 (↑(List.length (((ix f.Blocks k).Term).Args)))),(166,.int .i64 (↑j))],(ix f.Blocks k).Term.Args.length - j⟩) 0 (Nat.zero_le _) (dc d0 (dc d1 (dc d2 (dc d3 dn)))) (kd (kd (kc k0 kn))) ⟨Z,Z,Z,Z,Z,Z,Z,Z,Z,Z,eqI (by omega),trivial⟩ ?_
 rintro j; dsimp only; rintro hj
 refine jq (jr (js (jlss Z Z) (jn (jx (jq ?_)))))
 refine jif Z (fun hc8 => ?_) (fun hc8 => ?_)
 have hu9 := hG.ut k hb _ (ix_mem (l := (ix f.Blocks k).Term.Args) (i := j) (by omega))
 refine jsk (jx (jq (jb (jq (jr (js (jix U32 Z3 (rBlock.c_Term_Args d0) Z Z Z (by omega)) (js (jlI (dix (rBlock.c_Term_Args d0) j (by omega)) O3 Z) (ja Z (jn (jx (jr ?_)))))))))))
 refine jm Z (jm Z (jm Z (js (jf F52_1 Z) (js (jl k0 O35 Z Z) (js (jln U35 (rBlock.cI d0) Z) (js (jf F52_1 Z) (js (jl k0 O35 Z Z) (js (jln U35 (rBlock.cI d0) Z) (jm Z (jc E66 Z Z (kUse_ct (f := f) _ _ _ _ _ hG rfl hdg ⟨by omega,by omega⟩ hu9) (dc d3 (dc d1 dn)) (kc k3 (kc k3 (kc k2 (kc k1 kn)))) (fun _ => p0) (fun _ => p4) fun _ => jn ?_))))))))))
 refine jbn (jx (jr (js (jadd Z Z (by omega)) (jm Z (jn ?_)))))
 exact jag (j + 1) (by dsimp only; omega) (dc d0 (dc d1 (dc d2 (dc d3 dn)))) (kc k4 (kc k3 (kc k2 (kd kn)))) ⟨Z,Z,Z,Z,Z,Z,Z,Z,Z,Z,eqI (by omega),trivial⟩
 refine jex (jtx (jtx (jbh (jbn (jx (jr (js (jadd Z Z (by omega)) (jm Z (jn ?_)))))))))
 exact jag (k + 1) (by dsimp only; omega) (dc d1 (dc d2 (dc d3 dn))) (kc k1 (kc k1 (kc k1 (kc k1 kn)))) ⟨Z,Z,Z,Z,Z,eqI (by omega),trivial⟩
 refine jex (jtx (jtx (jbh ?_)))
 exact jd0 Z () Z dn (fun _ _ => (kc k2 (kc k2 kn)))
end Go.Proofs.Ytmfkkodnghambaa
