/- Lemmas that the claim is made of. Conditions: each lemma names its own. -/
import Derived.Test.YtehhjlkmbdhckaaGreatKG10
import Derived.Shelf.Lay
import Derived.Shelf.Sort.Plain
import Derived.Shelf.Slices.In.SortNone
import Derived.Sort.OwnSortedInts
import Derived.Test.YtehhjlkmbdhckaaGreatRows
import Derived.Test.YtehhjlkmbdhckaaGreatKG5
set_option linter.unusedSectionVars false
set_option linter.unusedSimpArgs false
set_option linter.unusedVariables false
namespace Go.JE
open Go
abbrev Ris (l : List Int) : Prop := l.Pairwise (· < ·)
def zIn (x : Int) : List Int → List Int
 | [] => [x]
 | y :: l => if x < y then x :: y :: l else if x = y then y :: l else y :: zIn x l
def zOut (x : Int) (l : List Int) : List Int := l.filter (fun y => !decide (y = x))
theorem zIn_mem {x y : Int} : ∀ {l : List Int},y ∈ zIn x l ↔ y = x ∨ y ∈ l
 | [] => by simp [zIn]
 | z :: l => by
   rw [zIn]; split
   · simp
   · split
     · rename_i h; subst h; simp
     · rw [List.mem_cons,zIn_mem,List.mem_cons]
       constructor
       · rintro (h | h | h) <;> simp [h]
       · rintro (h | h | h) <;> simp [h]
theorem zIn_ris {x : Int} : ∀ {l : List Int},Ris l → Ris (zIn x l)
 | [],_ => by simp [zIn,Ris]
 | z :: l,h => by
   rw [Ris,List.pairwise_cons] at h
   rw [zIn]; split
   · rename_i h1
     refine List.pairwise_cons.2 ⟨fun y hy => ?_,List.pairwise_cons.2 h⟩
     rcases List.mem_cons.1 hy with rfl | hy
     · exact h1
     · have := h.1 y hy; omega
   · split
     · exact List.pairwise_cons.2 h
     · refine List.pairwise_cons.2 ⟨fun y hy => ?_,zIn_ris h.2⟩
       rcases zIn_mem.1 hy with rfl | hy
       · omega
       · exact h.1 y hy
theorem zOut_mem {x y : Int} {l : List Int} : y ∈ zOut x l ↔ y ∈ l ∧ y ≠ x := by simp [zOut]
theorem zOut_ris {x : Int} {l : List Int} (h : Ris l) : Ris (zOut x l) := List.Pairwise.filter _ h
theorem ris_ext : ∀ {a b : List Int},Ris a → Ris b → (∀ x,x ∈ a ↔ x ∈ b) → a = b
 | [],[],_,_,_ => rfl
 | [],y :: b,_,_,h => absurd ((h y).2 (by simp)) (by simp)
 | x :: a,[],_,_,h => absurd ((h x).1 (by simp)) (by simp)
 | x :: a,y :: b,ha,hb,h => by
   rw [Ris,List.pairwise_cons] at ha hb
   have e : x = y := by
     rcases List.mem_cons.1 ((h x).1 (by simp)) with e | e
     · exact e
     · rcases List.mem_cons.1 ((h y).2 (by simp)) with e2 | e2
       · exact e2.symm
       · have := hb.1 x e; have := ha.1 y e2; omega
   subst e
   rw [ris_ext ha.2 hb.2 fun z => ?_]
   constructor
   · intro hz
     rcases List.mem_cons.1 ((h z).1 (by simp [hz])) with e | e
     · subst e; have := ha.1 z hz; omega
     · exact e
   · intro hz
     rcases List.mem_cons.1 ((h z).2 (by simp [hz])) with e | e
     · subst e; have := hb.1 z hz; omega
     · exact e
theorem Ris.nodup {l : List Int} (h : Ris l) : l.Nodup := List.Pairwise.imp (fun h => by omega) h
structure Sx (L : List (Int × Value)) (S : List Int) : Prop where
 ris : Ris S
 mem : ∀ x,x ∈ L.map (·.1) ↔ x ∈ S
 tru : ∀ p ∈ L,p.2 = .bool true
theorem Sx.nil : Sx [] [] := ⟨by simp [Ris],by simp,by simp⟩
theorem upM_tru {k : Int} : ∀ {L : List (Int × Value)},(∀ p ∈ L,p.2 = .bool true) → ∀ p ∈ upM L k (.bool true),p.2 = .bool true
 | [],_,p,h => by simp [upM] at h; subst h; rfl
 | q :: r,hq,p,h => by
   rw [upM] at h; split at h
   · rcases List.mem_cons.1 h with rfl | h
     · rfl
     · exact hq p (by simp [h])
   · rcases List.mem_cons.1 h with rfl | h
     · exact hq _ (by simp)
     · exact upM_tru (fun p hp => hq p (by simp [hp])) p h
section
variable {L L' : List (Int × Value)} {S : List Int} {k : Int}
theorem Sx.up (h : Sx L S) : Sx (upM L k (.bool true)) (zIn k S) where
 ris := zIn_ris h.ris
 mem := fun x => by
   rw [upM_keys,zIn_mem,← h.mem x]
   split
   · rename_i h1
     exact ⟨.inr,fun h2 => h2.elim (fun e => e ▸ h1) id⟩
   · simp [or_comm]
 tru := upM_tru h.tru
theorem Sx.lk (h : Sx L S) : (lkM L k).getD (.bool false) = .bool (decide (k ∈ S)) := by
 cases hl : lkM L k with
 | none =>
   have := lkM_none.1 hl
   rw [h.mem] at this
   simp [this]
 | some v =>
   unfold lkM at hl
   rw [Option.map_eq_some_iff] at hl
   obtain ⟨p,h1,rfl⟩ := hl
   have hm := List.mem_of_find?_eq_some h1
   have he := List.find?_some h1
   have : k ∈ S := (h.mem k).1 (List.mem_map.2 ⟨p,hm,by simpa using he⟩)
   rw [h.tru p hm]; simp [this]
theorem Sx.del (h : Sx L S) (hn : (L.map (·.1)).Nodup) (hn' : (L'.map (·.1)).Nodup) (hL : ∀ m,lkM L' m = if m = k then none else lkM L m) : Sx L' (zOut k S) where
 ris := zOut_ris h.ris
 mem := fun x => by
   rw [zOut_mem,← h.mem x]
   have h1 : ∀ (M : List (Int × Value)),x ∈ M.map (·.1) ↔ lkM M x ≠ none := fun M => by rw [Ne,lkM_none]; simp
   rw [h1,h1,hL]
   by_cases e : x = k
   · simp [e]
   · simp [e]
 tru := fun p hp => by
   have h1 : lkM L' p.1 = some p.2 := (lkM_mem hn').1 hp
   rw [hL] at h1
   split at h1
   · cases h1
   · exact h.tru p ((lkM_mem hn).2 h1)
theorem Sx.len (h : Sx L S) (hn : (L.map (·.1)).Nodup) : L.length = S.length := by
 have h1 : (L.map (·.1)).Perm S := (List.perm_ext_iff_of_nodup hn h.ris.nodup).2 h.mem
 have := h1.length_eq
 simpa using this
end
def rSet : Rp (Option (List Int)) where
 sz := 1
 agg := false
 ok F a f := match a with
   | none => f 0 = .map none
   | some S => ∃ g es c L,f 0 = .map (some g) ∧ F g = some (.map es c) ∧ ImAt es c L ∧ Sx L S
 up {F G a f} hl h := by
   cases a with
   | none => exact h
   | some S => obtain ⟨g,es,c,L,h1,h2,h3⟩ := h; exact ⟨g,es,c,L,h1,hl _ _ h2,h3⟩
 ext {F a f g} he h := by
   cases a with
   | none => show g 0 = _; rw [← he 0 (by omega)]; exact h
   | some S => obtain ⟨q,es,c,L,h1,h2⟩ := h; exact ⟨q,es,c,L,by rw [← he 0 (by omega)]; exact h1,h2⟩
 one {F a f} h i hi := by
   rw [show i = 0 by omega]
   cases a with
   | none => have h' : f 0 = .map none := h; rw [h']; rfl
   | some S => obtain ⟨q,es,c,L,h1,h2⟩ := h; rw [h1]; rfl
def sm (B g : Nat) (S : List Int) : Res where
 sat F H := ((∃ L,Im H g L ∧ Sx L S) ∧ F g = none) ∧ B ≤ g
 own k := k = g
 lt := fun h e => by subst e; obtain ⟨⟨⟨L,h1,_⟩,_⟩,_⟩ := h; exact h1.lt
 no := fun h e => e ▸ h.1.2
 st := fun _ _ h1 h2 h => by obtain ⟨⟨⟨L,a,b⟩,_⟩,d⟩ := h; exact ⟨⟨⟨L,a.of (h2 g rfl),b⟩,h1 g rfl⟩,d⟩
variable {P : Program} {D D0 : List Dt} {L M N : List Res} {e : Env} {X : Cx} {n : Fs} {w0 : World} {Q : Exit → Act → World → Prop}
section
variable {ops : Array Oper} {op : Op} {d : Nat} {ty : TypeId} {pos : String} {af : Array Edge} {rest : List Oper} {T T' K E : TypeId} {x y z : Operand} {g B : Nat} {S : List Int} {k : Int} {v u : Value}
theorem jsm (kk : ∀ g,LH P n w0 ops Q X D (sm X.n g [] :: L) ((d,.map (some g)) :: e) rest) (hd : Nat.blt d n.sz = true := by rfl) : LH P n w0 ops Q X D L e (⟨some d,.makeMap T none,ty,pos,af,none⟩ :: rest) := fun F H hp =>
 LF.chg OpCh.makeMapB (by
   rintro _ H' ⟨g,rfl,eg,sg,kg,hb⟩
   exact kk g F H' (hp.new (R := sm X.n g []) kg ⟨⟨⟨[],hb,Sx.nil⟩,hp.hin.nope (Nat.le_of_eq eg.symm)⟩,by rw [eg]; exact hp.hw.1⟩ (fun k hk => by have : k = g := hk; omega))) hd
theorem Tw.kws {H H' : Heap} (h : Tw g H H') : Kw (sm B g S).own H H' := ⟨Nat.le_of_eq h.1.symm,fun k _ h2 => h.2 k h2⟩
theorem jsu (hT : P.underlying T = some (.map K E)) (hK : P.underlying K = some (.int .i64)) (hm : Tk L (sm B g S) M) (hx : ev e x = some (.map (some g))) (hi : ev e z = some (.int .i64 k)) (hy : ev e y = some (.bool true))
   (kk : LH P n w0 ops Q X D (sm B g (zIn k S) :: M) e rest) : LH P n w0 ops Q X D L e (⟨none,.mapUpdate T x z y,ty,pos,af,none⟩ :: rest) := fun F H hp => by
 obtain ⟨⟨⟨L1,h1,h2⟩,h3⟩,h4⟩ := hp.at hm
 exact LF.chg0 (OpCh.mapUpdate hT hK h1 hx hi hy) (by rintro _ H' ⟨m,t⟩; exact kk F H' (hp.set (R' := sm B g (zIn k S)) hm t.kws ⟨⟨⟨_,m,h2.up⟩,h3⟩,h4⟩ (fun k h => .inr h)))
theorem jsd {t2 : TypeId} (hT : P.underlying T = some (.map K E)) (hK : P.underlying K = some (.int .i64)) (hm : Tk L (sm B g S) M) (hx : ev e x = some (.map (some g))) (hi : ev e z = some (.int .i64 k))
   (kk : LH P n w0 ops Q X D (sm B g (zOut k S) :: M) e rest) : LH P n w0 ops Q X D L e (⟨none,.call { callee := .builtin .delete,args := #[x,z],argTypes := #[T,t2] },ty,pos,af,none⟩ :: rest) := fun F H hp => by
 obtain ⟨⟨⟨L1,h1,h2⟩,h3⟩,h4⟩ := hp.at hm
 exact LF.chg0 (OpCh.delete hT hK h1 hx hi) (by rintro _ H' ⟨L',m,hl,t⟩; exact kk F H' (hp.set (R' := sm B g (zOut k S)) hm t.kws ⟨⟨⟨_,m,h2.del h1.nodup m.nodup hl⟩,h3⟩,h4⟩ (fun k h => .inr h)))
theorem rSet.im {F : PH} {H : Heap} {S : List Int} {v : Value} (h : rSet.rv F v (some S)) (hin : InH F H) : ∃ g L,v = .map (some g) ∧ Im H g L ∧ Sx L S := by
 obtain ⟨g,es,c,L,h1,h2,h3,h4⟩ := h
 exact ⟨g,L,h1,⟨es,c,hin _ _ h2,h3⟩,h4⟩
theorem jsfl (hT : P.underlying T = some (.map K E)) (hv : Nd D L (dv rSet v (some S))) (hx : ev e x = some v) : OH P D L e (.call { callee := .builtin .len,args := #[x],argTypes := #[T] }) (.int .i64 (S.length : Nat)) := fun F H h1 h2 h3 => by
 obtain ⟨g,L1,rfl,h4,h5⟩ := rSet.im (hv F H h1 h2 h3) h1
 rw [← h5.len h4.nodup]; exact OpOk.len_map hT h4 hx
theorem jsfk (hT : P.underlying T = some (.map K E)) (hK : P.underlying K = some (.int .i64)) (hz : (P.info? E).bind (·.zero) = some (.bool false)) (hv : Nd D L (dv rSet v (some S))) (hx : ev e x = some v) (hi : ev e z = some (.int .i64 k)) : OH P D L e (.lookup T x z false) (.bool (decide (k ∈ S))) := fun F H h1 h2 h3 => by
 obtain ⟨g,L1,rfl,h4,h5⟩ := rSet.im (hv F H h1 h2 h3) h1
 rw [← h5.lk]; exact OpOk.lookup hT hK hz h4 hx hi
theorem Hp.fset {F : PH} {H : Heap} (hp : Hp X D L F H) (hk : Tk L (sm X.n g S) M) : ∃ G,Hp X (dv rSet (.map (some g)) (some S) :: D) M G H := by
 obtain ⟨o1,o2,o3⟩ := hk.ok hp.ok
 obtain ⟨⟨⟨L1,⟨es,c,h1,h2⟩,h3⟩,h4⟩,h5⟩ := o1
 have hl : F.le (F.add g (.map es c)) := PH.le_add h4
 have hne : ∀ k,k ≠ g → F.add g (.map es c) k = F k := fun k hk1 => by unfold PH.add; rw [if_neg hk1]
 refine ⟨F.add g (.map es c),⟨hp.hx.1.trans hl,fun k hk1 => (hne k (by have : X.n = X.H.size := rfl; omega)).trans (hp.hx.2 k hk1)⟩,hp.hin.add h1,hp.hw,⟨⟨g,es,c,L1,rfl,by unfold PH.add; rw [if_pos rfl],h2,h3⟩,hp.hd.up hl⟩,o3.st hl (Nat.le_refl _) (fun k hk1 => (hne k (fun e1 => o2 k e1 hk1)).trans (o3.no hk1)) (fun _ _ => rfl),fun k hk1 => hp.ge k (hk.own (.inr hk1))⟩
theorem jfs (hk : Tk L (sm X.n g S) M) (k : LH P n w0 ops Q X (dv rSet (.map (some g)) (some S) :: D) M e rest) : LH P n w0 ops Q X D L e rest := fun F H hp => by
 obtain ⟨G,h⟩ := hp.fset hk; exact k G H h
def sit (r : Nat) (v : Value) (S vis : List Int) : Res where
 sat F H := (∃ g es c L,v = .map (some g) ∧ F g = some (.map es c) ∧ ImAt es c L ∧ Sx L S ∧ r ≠ g ∧ r < H.size ∧ ∀ K : Heap,K[g]? = some (.map es c) → K[r]? = H[r]? → It K r g L vis) ∧ F r = none
 own k := k = r
 lt := fun h e => by obtain ⟨⟨g,es,c,L,_,_,_,_,_,h1,_⟩,_⟩ := h; rw [e]; exact h1
 no := fun h e => e ▸ h.2
 st := fun hl hs h1 h2 h => by
   obtain ⟨⟨g,es,c,L,a1,a2,a3,a4,a5,a6,a7⟩,a8⟩ := h
   exact ⟨⟨g,es,c,L,a1,hl _ _ a2,a3,a4,a5,Nat.lt_of_lt_of_le a6 hs,fun K hg hr => a7 K hg (hr.trans (h2 r rfl))⟩,h1 r rfl⟩
theorem sit.it {F : PH} {H : Heap} {r : Nat} {vis : List Int} (h : (sit r v S vis).sat F H) (hin : InH F H) : ∃ g L,v = .map (some g) ∧ It H r g L vis ∧ Sx L S ∧ r ≠ g := by
 obtain ⟨⟨g,es,c,L,a1,a2,a3,a4,a5,a6,a7⟩,a8⟩ := h
 exact ⟨g,L,a1,a7 H (hin _ _ a2) rfl,a4,a5⟩
theorem jrs (hT : P.underlying T = some (.map K E)) (hv : Nd D L (dv rSet v (some S))) (hx : ev e x = some v) (kk : ∀ r,LH P n w0 ops Q X D (sit r v S [] :: L) ((d,.pointer (some ⟨r,0,none⟩)) :: e) rest) (hd : Nat.blt d n.sz = true := by rfl) : LH P n w0 ops Q X D L e (⟨some d,.range T x,ty,pos,af,none⟩ :: rest) := fun F H hp => by
 obtain ⟨g,es,c,L1,rfl,h2,h3,h4⟩ := hv F H hp.hin hp.hd hp.ok
 have him : Im H g L1 := ⟨es,c,hp.hin _ _ h2,h3⟩
 refine LF.chg (OpCh.range hT him hx) ?_ hd
 rintro _ H' ⟨rfl,h5,h6,h7⟩
 have hgl : g < H.size := him.lt
 obtain ⟨es',c',seen,q1,q2,q3,q4⟩ := h5
 have e1 : es' = es ∧ c' = c := by
   rw [h7 g hgl,hp.hin _ _ h2] at q1; injection q1 with q1; injection q1 with q1 q5; exact ⟨q1.symm,q5.symm⟩
 obtain ⟨rfl,rfl⟩ := e1
 refine kk H.size F H' (hp.new (R := sit H.size (.map (some g)) S []) ⟨by omega,h7⟩ ⟨⟨g,es',c',L1,rfl,h2,h3,h4,by omega,by omega,fun K hg hr => ?_⟩,hp.hin.nope (Nat.le_refl _)⟩ (fun k hk => by have : k = H.size := hk; omega))
 exact ⟨es',c',seen,hg,h3,hr.trans q3,q4⟩
theorem jns {r : Nat} {vis : List Int} (hk : Tk L (sit r v S vis) M) (hx : ev e x = some (.pointer (some ⟨r,0,none⟩)))
   (k1 : (∀ y ∈ S,y ∈ vis) → LH P n w0 ops Q X D (sit r v S vis :: M) ((d,.tuple #[.bool false]) :: e) rest)
   (k2 : ∀ y,y ∈ S → y ∉ vis → LH P n w0 ops Q X D (sit r v S (vis ++ [y]) :: M) ((d,.tuple #[.bool true,.int .i64 y,.bool true]) :: e) rest) (hd : Nat.blt d n.sz = true := by rfl) :
   LH P n w0 ops Q X D L e (⟨some d,.next x false,ty,pos,af,none⟩ :: rest) := fun F H hp => by
 have hs := hp.at hk
 obtain ⟨g,L1,rfl,h1,h2,h3⟩ := sit.it hs hp.hin
 refine LF.chg (OpCh.next h3 h1 hx) ?_ hd
 rintro _ H' (⟨rfl,h4,rfl⟩ | ⟨y,w,rfl,h4,h5,h6,h7⟩)
 · have h8 := hp.set (R' := sit r (.map (some g)) S vis) hk (Kw.refl _ _) hs (fun k h => .inr h)
   exact k1 (fun y hy => h4 y ((h2.mem y).2 hy)) F H' h8
 · have hw : w = .bool true := h2.tru _ h4
   subst hw
   have hy : y ∈ S := (h2.mem y).1 (List.mem_map.2 ⟨_,h4,rfl⟩)
   refine k2 y hy h5 F H' (hp.set (R' := sit r (.map (some g)) S (vis ++ [y])) hk ⟨Nat.le_of_eq h7.1.symm,fun k _ h2 => h7.2 k h2⟩ ?_ (fun k h => .inr h))
   obtain ⟨⟨g',es,c,L2,a1,a2,a3,a4,a5,a6,a7⟩,a8⟩ := hs
   injection a1 with a1; injection a1 with a1; subst a1
   obtain ⟨es',c',seen,q1,q2,q3,q4,q5,q6,q7⟩ := h6
   have hgH : H'[g]? = some (.map es c) := (h7.2 g (Ne.symm h3)).trans (hp.hin _ _ a2)
   have e1 : es' = es ∧ c' = c := by rw [hgH] at q1; injection q1 with q1; injection q1 with q1 q5; exact ⟨q1.symm,q5.symm⟩
   obtain ⟨rfl,rfl⟩ := e1
   exact ⟨⟨g,es',c',L1,rfl,a2,q2,h2,h3,by rw [h7.1]; exact a6,fun K hg hr => ⟨es',c',seen,hg,q2,hr.trans q3,q4,q5,q6,q7⟩⟩,a8⟩
theorem jes {r : Nat} {vis : List Int} {i : Int} (hk : Tk L (sit r v S (vis ++ [i])) M) (hi : i ∈ S) (hx : ev e x = some (.pointer (some ⟨r,0,none⟩))) : OH P D L e (.entry x) (.tuple #[.int .i64 i,.bool true]) := fun F H h1 h2 h3 => by
 obtain ⟨g,L1,rfl,h4,h5,h6⟩ := sit.it (hk.ok h3).1 h1
 obtain ⟨p,hp,e1⟩ := List.mem_map.1 ((h5.mem i).2 hi)
 have e2 := h5.tru p hp
 have e3 : p = (i,.bool true) := by cases p; simp at e1 e2; rw [e1,e2]
 exact OpOk.entry h4 (e3 ▸ hp) hx
theorem rSet.ris1 {F : PH} (h : rSet.rv F v (some S)) : Ris S := by obtain ⟨_,_,_,_,_,_,_,h4⟩ := h; exact h4.ris
theorem csR {c : Code} (h : Nd D L (dv rSet v (some S))) (k : Ris S → CH P n w0 Q X D L e c) : CH P n w0 Q X D L e c := fun F H hp => k (rSet.ris1 (h F H hp.hin hp.hd hp.ok)) F H hp
theorem kcs {S' : List Int} {Ls N : List Res} (e1 : S' = S) (h : Tk L (sm B g S) M) (h' : Tks M Ls N) : Tks L (sm B g S' :: Ls) N := e1 ▸ kc h h'
theorem wSn : Nd D L (dv rSet (.map none) none) := fun _ _ _ _ _ => rfl
theorem klS {Ls N : List Res} {S' : List Int} (e1 : S' = S) (hB : B ≤ X.n) (h : Tk L (sm X.n g S) M) (h' : Tks M Ls N) : Tks L (sm B g S' :: Ls) N where
 ok := fun o => by
   obtain ⟨⟨a,b,c⟩,x,y⟩ := (kcs e1 h h').ok o
   exact ⟨⟨⟨a.1,Nat.le_trans hB a.2⟩,b,c⟩,x,y⟩
 own := fun o => (kcs e1 h h').own o
end
section
variable {α : Type} {r : Rp α} {T To : TypeId} {B i : Nat} {vs : List Value} {ls : List (List α)} {l' : List α} {ops : Array Oper} {rest : List Oper} {c : Code} {z : Exit}
theorem cro (i : Nat) (hk : Tk L (rw' B r T vs ls) M) (h1 : i < vs.length) (h2 : i < ls.length) (k : CH P n w0 Q X D (gl B r T (vs.getD i undef) (ls.getD i []) :: hole i B r T vs ls :: M) e c) : CH P n w0 Q X D L e c := fun F H hp => k F H (hp.row hk h1 h2)
theorem Hp.ruv {F : PH} {H : Heap} (hp : Hp X D L F H) (hk : Tk L (gl B r T (vs.getD i undef) l') M) (hk2 : Tk M (hole i B r T vs ls) N) (h1 : i < vs.length) (h2 : i < ls.length) : Hp X D (rw' B r T vs (ls.set i l') :: N) F H := by
 have h3 := hp.front hk
 have h4 : Hp X D (gl B r T (vs.getD i undef) l' :: hole i B r T vs ls :: N) F H := ⟨h3.hx,h3.hin,h3.hw,h3.hd,by
     obtain ⟨a,b,c⟩ := h3.ok
     obtain ⟨x,y,z⟩ := hk2.ok c
     exact ⟨a,fun k hk ho => b k hk (hk2.own ho),x,y,z⟩,fun k hk => hk.elim (fun h => h3.ge k (.inl h)) (fun h => h3.ge k (.inr (hk2.own h)))⟩
 have h5 := h4.unrow h1 h2
 rwa [set_same] at h5
theorem jruv (hk : Tk L (gl B r T (vs.getD i undef) l') M) (hk2 : Tk M (hole i B r T vs ls) N) (h1 : i < vs.length) (h2 : i < ls.length) (k : LH P n w0 ops Q X D (rw' B r T vs (ls.set i l') :: N) e rest) : LH P n w0 ops Q X D L e rest := fun F H hp => k F H (hp.ruv hk hk2 h1 h2)
theorem qruv (hk : Tk L (gl B r T (vs.getD i undef) l') M) (hk2 : Tk M (hole i B r T vs ls) N) (h1 : i < vs.length) (h2 : i < ls.length) (k : QH n w0 Q X D (rw' B r T vs (ls.set i l') :: N) e z) : QH n w0 Q X D L e z := fun F H hp => k F H (hp.ruv hk hk2 h1 h2)
theorem Hp.rmore {F : PH} {H : Heap} {u : Value} {l : List α} (hp : Hp X D L F H) (hk : Tk L (rw' B r T vs ls) M) (hk2 : Tk M (gl B r T u l) N) (hl : vs.length = ls.length) : Hp X D (rw' B r T (vs ++ [u]) (ls ++ [l]) :: N) F H := by
 obtain ⟨a,b,c⟩ := hk.ok hp.ok
 obtain ⟨x,y,z⟩ := hk2.ok c
 have e1 : rws B r T (vs ++ [u]) (ls ++ [l]) = rws B r T vs ls ++ [gl B r T u l] := by unfold rws; rw [List.zipWith_append hl]; rfl
 have a' : Ok F H (rws B r T vs ls) := a
 refine ⟨hp.hx,hp.hin,hp.hw,hp.hd,⟨?_,fun k hk1 ho => ?_,z⟩,fun k hk1 => ?_⟩
 · show Ok F H (rws B r T (vs ++ [u]) (ls ++ [l]))
   rw [e1]
   exact Ok.app a' ⟨x,fun _ _ => id,trivial⟩ (fun k h1 h2 => b k h1 (hk2.own (.inl (h2.resolve_right id))))
 · have h1 : Own (rws B r T (vs ++ [u]) (ls ++ [l])) k := hk1
   rw [e1] at h1
   rcases Own.app.1 h1 with h2 | h2
   · exact b k h2 (hk2.own (.inr ho))
   · exact y k (h2.resolve_right id) ho
 · rcases hk1 with h1 | h1
   · have h1' : Own (rws B r T (vs ++ [u]) (ls ++ [l])) k := h1
     rw [e1] at h1'
     rcases Own.app.1 h1' with h2 | h2
     · exact hp.ge k (hk.own (.inl h2))
     · exact hp.ge k (hk.own (.inr (hk2.own (.inl (h2.resolve_right id)))))
   · exact hp.ge k (hk.own (.inr (hk2.own (.inr h1))))
theorem jrm {u : Value} {l : List α} (hk : Tk L (rw' B r T vs ls) M) (hk2 : Tk M (gl B r T u l) N) (hl : vs.length = ls.length) (k : LH P n w0 ops Q X D (rw' B r T (vs ++ [u]) (ls ++ [l]) :: N) e rest) : LH P n w0 ops Q X D L e rest := fun F H hp => k F H (hp.rmore hk hk2 hl)
end
end Go.JE
namespace Go.Proofs.YtehhjlkmbdhckaaGreat
open Go.JE
def uniS (l xs : List Int) : List Int := xs.foldl (fun l x => zIn x l) l
def delS (l xs : List Int) : List Int := xs.foldl (fun l x => zOut x l) l
theorem uniS_mem {y : Int} : ∀ {xs l : List Int},y ∈ uniS l xs ↔ y ∈ l ∨ y ∈ xs
 | [],l => by simp [uniS]
 | x :: xs,l => by
   show y ∈ uniS (zIn x l) xs ↔ _
   rw [uniS_mem,zIn_mem,List.mem_cons]
   constructor
   · rintro ((h | h) | h) <;> simp [h]
   · rintro (h | h | h) <;> simp [h]
theorem uniS_ris : ∀ {xs l : List Int},Ris l → Ris (uniS l xs)
 | [],_,h => h
 | _ :: xs,_,h => uniS_ris (xs := xs) (zIn_ris h)
theorem delS_mem {y : Int} : ∀ {xs l : List Int},y ∈ delS l xs ↔ y ∈ l ∧ y ∉ xs
 | [],l => by simp [delS]
 | x :: xs,l => by
   show y ∈ delS (zOut x l) xs ↔ _
   rw [delS_mem,zOut_mem,List.mem_cons,not_or]
   exact ⟨fun ⟨⟨a,b⟩,c⟩ => ⟨a,b,c⟩,fun ⟨a,b,c⟩ => ⟨⟨a,b⟩,c⟩⟩
theorem delS_ris : ∀ {xs l : List Int},Ris l → Ris (delS l xs)
 | [],_,h => h
 | _ :: xs,_,h => delS_ris (xs := xs) (zOut_ris h)
def sAt : List D.Mach → List Int → List Int
 | [],now => now
 | i :: l,now => uniS (delS (sAt l now) (makesM i)) (takesM i)
def bkB (r : Int) : List D.Mach → Bool → Bool
 | [],o => o
 | i :: l,o => if r ∈ takesM i then true else if r ∈ makesM i then false else bkB r l o
theorem sAt_mem {r : Int} {now : List Int} : ∀ {l : List D.Mach},r ∈ sAt l now ↔ bkB r l (decide (r ∈ now)) = true
 | [] => by simp [sAt,bkB]
 | i :: l => by
   rw [sAt,bkB,uniS_mem,delS_mem,sAt_mem]
   by_cases h1 : r ∈ takesM i
   · simp [h1]
   · by_cases h2 : r ∈ makesM i
     · simp [h1,h2]
     · simp [h1,h2]
theorem sAt_ris {now : List Int} (h : Ris now) : ∀ {l : List D.Mach},Ris (sAt l now)
 | [] => h
 | i :: l => uniS_ris (delS_ris (sAt_ris h))
theorem bkB_up {r : Int} : ∀ {l : List D.Mach} {o o' : Bool},(o = true → o' = true) → bkB r l o = true → bkB r l o' = true
 | [],_,_,h,h1 => h h1
 | i :: l,o,o',h,h1 => by
   rw [bkB] at h1 ⊢
   split
   · rfl
   · rename_i h2
     rw [if_neg h2] at h1
     split
     · rename_i h3; rw [if_pos h3] at h1; exact h1
     · rename_i h3; rw [if_neg h3] at h1; exact bkB_up h h1
theorem bkB_or {r : Int} : ∀ {l : List D.Mach} {o : Bool},bkB r l o = true → bkB r l false = true ∨ (o = true ∧ bkB r l true = true)
 | [],o,h => .inr ⟨h,rfl⟩
 | i :: l,o,h => by
   rw [bkB] at h ⊢
   split at h
   · rename_i h2; left; exact if_pos h2
   · rename_i h2
     rw [if_neg h2]
     split at h
     · cases h
     · rename_i h3
       rw [if_neg h3,bkB,if_neg h2,if_neg h3]; exact bkB_or h
def backB (x : D.MBlock) (p : Nat) (r : Int) (o : Bool) : Bool := bkB r (x.Ins.drop p) (o || decide (r ∈ nM9 x.End))
theorem backB_up {x : D.MBlock} {p : Nat} {r : Int} {o o' : Bool} (h : o = true → o' = true) (h1 : backB x p r o = true) : backB x p r o' = true :=
 bkB_up (fun h2 => by rw [Bool.or_eq_true] at h2 ⊢; exact h2.imp h id) h1
theorem backB_or {x : D.MBlock} {p : Nat} {r : Int} {o : Bool} (h : backB x p r o = true) : backB x p r false = true ∨ (o = true ∧ backB x p r true = true) := by
 cases o with
 | false => exact .inl h
 | true => exact .inr ⟨rfl,h⟩
theorem sAt_back {x : D.MBlock} {p : Nat} {r : Int} {E : List Int} : r ∈ sAt (x.Ins.drop p) (uniS E (nM9 x.End)) ↔ backB x p r (decide (r ∈ E)) = true := by
 rw [sAt_mem]; unfold backB
 have : decide (r ∈ uniS E (nM9 x.End)) = (decide (r ∈ E) || decide (r ∈ nM9 x.End)) := by rw [← Bool.decide_or,decide_eq_decide]; exact uniS_mem
 rw [this]
def dsts (x : D.MBlock) : List Int := x.Phis.map (fun p => p.Dst)
def phiT (x : D.MBlock) (n : Int) : List Int := x.Phis.flatMap (fun p => (p.In.filter (fun y => decide (y.From = n))).map (fun y => y.Val))
inductive LO (bs : List D.MBlock) : Nat → Int → Prop
 | phi {b : Nat} {to r : Int} : to ∈ (ix bs b).End.To → r ∈ phiT (ix bs to.toNat) b → LO bs b r
 | gen {b : Nat} {to r : Int} : to ∈ (ix bs b).End.To → r ∉ dsts (ix bs to.toNat) → backB (ix bs to.toNat) 0 r false = true → LO bs b r
 | thru {b : Nat} {to r : Int} : to ∈ (ix bs b).End.To → r ∉ dsts (ix bs to.toNat) → backB (ix bs to.toNat) 0 r true = true → LO bs to.toNat r → LO bs b r
def LI (bs : List D.MBlock) (b : Nat) (r : Int) : Prop := backB (ix bs b) 0 r false = true ∨ (backB (ix bs b) 0 r true = true ∧ LO bs b r)
theorem LI.lo {bs : List D.MBlock} {b : Nat} {to r : Int} (ht : to ∈ (ix bs b).End.To) (hd : r ∉ dsts (ix bs to.toNat)) (h : LI bs to.toNat r) : LO bs b r := h.elim (fun h => .gen ht hd h) (fun h => .thru ht hd h.1 h.2)
def endOne (bs : List D.MBlock) (I : List (List Int)) (n : Nat) (e : List Int) (to : Int) : List Int := uniS (uniS e (delS (ix I to.toNat) (dsts (ix bs to.toNat)))) (phiT (ix bs to.toNat) n)
def enS (bs : List D.MBlock) (I : List (List Int)) (n : Nat) : List Int := (ix bs n).End.To.foldl (endOne bs I n) []
theorem endF_mem {bs : List D.MBlock} {I : List (List Int)} {n : Nat} {r : Int} : ∀ {ts e : List Int},r ∈ ts.foldl (endOne bs I n) e ↔ r ∈ e ∨ ∃ to ∈ ts,(r ∈ ix I to.toNat ∧ r ∉ dsts (ix bs to.toNat)) ∨ r ∈ phiT (ix bs to.toNat) n
 | [],e => by simp
 | t :: ts,e => by
   rw [List.foldl_cons,endF_mem]
   unfold endOne
   rw [uniS_mem,uniS_mem,delS_mem]
   constructor
   · rintro (((h | h) | h) | ⟨to,h1,h2⟩)
     · exact .inl h
     · exact .inr ⟨t,by simp,.inl h⟩
     · exact .inr ⟨t,by simp,.inr h⟩
     · exact .inr ⟨to,by simp [h1],h2⟩
   · rintro (h | ⟨to,h1,h2⟩)
     · exact .inl (.inl (.inl h))
     · rcases List.mem_cons.1 h1 with rfl | h1
       · exact .inl (h2.elim (fun h => .inl (.inr h)) .inr)
       · exact .inr ⟨to,h1,h2⟩
theorem enS_mem {bs : List D.MBlock} {I : List (List Int)} {n : Nat} {r : Int} : r ∈ enS bs I n ↔ ∃ to ∈ (ix bs n).End.To,(r ∈ ix I to.toNat ∧ r ∉ dsts (ix bs to.toNat)) ∨ r ∈ phiT (ix bs to.toNat) n := by
 unfold enS; rw [endF_mem]; simp
theorem endF_ris {bs : List D.MBlock} {I : List (List Int)} {n : Nat} : ∀ {ts e : List Int},Ris e → Ris (ts.foldl (endOne bs I n) e)
 | [],_,h => h
 | _ :: ts,_,h => endF_ris (ts := ts) (uniS_ris (uniS_ris h))
theorem enS_ris {bs : List D.MBlock} {I : List (List Int)} {n : Nat} : Ris (enS bs I n) := endF_ris (by simp [Ris])
def begS (bs : List D.MBlock) (b : Nat) (e : List Int) : List Int := sAt (ix bs b).Ins (uniS e (nM9 (ix bs b).End))
theorem begS_mem {bs : List D.MBlock} {b : Nat} {e : List Int} {r : Int} : r ∈ begS bs b e ↔ backB (ix bs b) 0 r (decide (r ∈ e)) = true := by
 have := sAt_back (x := ix bs b) (p := 0) (r := r) (E := e)
 rwa [List.drop_zero] at this
structure FS (bs : List D.MBlock) (E I : List (List Int)) : Prop where
 le : E.length = bs.length
 li : I.length = bs.length
 re : ∀ b,b < bs.length → Ris (ix E b)
 ri : ∀ b,b < bs.length → Ris (ix I b)
 so : ∀ b,b < bs.length → ∀ r ∈ ix E b,LO bs b r
 si : ∀ b,b < bs.length → ∀ r ∈ ix I b,LI bs b r
 up : ∀ b,b < bs.length → ∀ r ∈ ix E b,r ∈ enS bs I b
 ui : ∀ b,b < bs.length → ∀ r ∈ ix I b,r ∈ begS bs b (ix E b)
def Fix (bs : List D.MBlock) (E I : List (List Int)) (b : Nat) : Prop := ix E b = enS bs I b ∧ ix I b = begS bs b (ix E b)
theorem ixN {n b : Nat} : ix (List.replicate n ([] : List Int)) b = [] := by
 by_cases hj : b < n
 · simp [ix,hj]
 · simp [ix,hj]; rfl
section
variable {bs : List D.MBlock} {E I : List (List Int)} {b : Nat}
theorem FS.start : FS bs (List.replicate bs.length []) (List.replicate bs.length []) where
 le := by simp
 li := by simp
 re := fun b _ => by rw [ixN]; simp [Ris]
 ri := fun b _ => by rw [ixN]; simp [Ris]
 so := fun b _ r h => by rw [ixN] at h; cases h
 si := fun b _ r h => by rw [ixN] at h; cases h
 up := fun b _ r h => by rw [ixN] at h; cases h
 ui := fun b _ r h => by rw [ixN] at h; cases h
theorem ixS {l : List (List Int)} {n b j : Nat} {x : List Int} (hl : l.length = n) (hb : b < n) : ix (l.set b x) j = if j = b then x else ix l j := by rw [ix_set (by omega)]
theorem begS_mono {e e' : List Int} (h : ∀ r ∈ e,r ∈ e') : ∀ r ∈ begS bs b e,r ∈ begS bs b e' := fun r hr => by
 rw [begS_mem] at hr ⊢
 exact backB_up (fun h1 => by simp at h1 ⊢; exact h r h1) hr
theorem enS_mono {I' : List (List Int)} {n : Nat} (h : ∀ j,∀ r ∈ ix I j,r ∈ ix I' j) : ∀ r ∈ enS bs I n,r ∈ enS bs I' n := fun r hr => by
 rw [enS_mem] at hr ⊢
 obtain ⟨to,h1,h2⟩ := hr
 exact ⟨to,h1,h2.imp (fun h3 => ⟨h _ r h3.1,h3.2⟩) id⟩
theorem FS.step (h : FS bs E I) (hb : b < bs.length) (hT : ∀ to ∈ (ix bs b).End.To,to.toNat < bs.length) :
   FS bs (E.set b (enS bs I b)) (I.set b (begS bs b (enS bs I b))) ∧ (∀ r ∈ ix E b,r ∈ enS bs I b) ∧ ∀ r ∈ ix I b,r ∈ begS bs b (enS bs I b) := by
 have h1 := h.up b hb
 have h2 : ∀ r ∈ ix I b,r ∈ begS bs b (enS bs I b) := fun r hr => begS_mono h1 r (h.ui b hb r hr)
 have hI : ∀ j,∀ r ∈ ix I j,r ∈ ix (I.set b (begS bs b (enS bs I b))) j := fun j r hr => by
   rw [ixS h.li hb]; split
   · rename_i e; subst e; exact h2 r hr
   · exact hr
 have hE : ∀ j,∀ r ∈ ix E j,r ∈ ix (E.set b (enS bs I b)) j := fun j r hr => by
   rw [ixS h.le hb]; split
   · rename_i e; subst e; exact h1 r hr
   · exact hr
 have hso : ∀ r ∈ enS bs I b,LO bs b r := fun r hr => by
   obtain ⟨to,h3,h4⟩ := enS_mem.1 hr
   rcases h4 with h4 | h4
   · exact LI.lo h3 h4.2 (h.si _ (hT to h3) r h4.1)
   · exact .phi h3 h4
 refine ⟨⟨by simp [h.le],by simp [h.li],fun j hj => ?_,fun j hj => ?_,fun j hj r hr => ?_,fun j hj r hr => ?_,fun j hj r hr => ?_,fun j hj r hr => ?_⟩,h1,h2⟩
 · rw [ixS h.le hb]; split; exact enS_ris; exact h.re j hj
 · rw [ixS h.li hb]; split; exact sAt_ris (uniS_ris enS_ris); exact h.ri j hj
 · rw [ixS h.le hb] at hr; split at hr
   · rename_i e; subst e; exact hso r hr
   · exact h.so j hj r hr
 · rw [ixS h.li hb] at hr; split at hr
   · rename_i e; subst e
     rw [begS_mem] at hr
     rcases backB_or hr with h3 | h3
     · exact .inl h3
     · exact .inr ⟨h3.2,hso r (by simpa using h3.1)⟩
   · exact h.si j hj r hr
 · refine enS_mono hI r ?_
   rw [ixS h.le hb] at hr; split at hr
   · rename_i e; subst e; exact hr
   · exact h.up j hj r hr
 · rw [ixS h.li hb] at hr; split at hr
   · rename_i e; subst e; rw [ixS h.le hb,if_pos rfl]; exact hr
   · rename_i e; rw [ixS h.le hb,if_neg e]; exact h.ui j hj r hr
theorem FS.done (h : FS bs E I) (hT : ∀ b,b < bs.length → ∀ to ∈ (ix bs b).End.To,to.toNat < bs.length) (hF : ∀ b,b < bs.length → Fix bs E I b) {b : Nat} {r : Int} (hL : LO bs b r) : b < bs.length → r ∈ ix E b := by
 induction hL with
 | phi h1 h2 => intro hb; rw [(hF _ hb).1,enS_mem]; exact ⟨_,h1,.inr h2⟩
 | gen h1 h2 h3 =>
   intro hb
   have ht := hT _ hb _ h1
   rw [(hF _ hb).1,enS_mem]
   refine ⟨_,h1,.inl ⟨?_,h2⟩⟩
   rw [(hF _ ht).2,begS_mem]
   exact backB_up (fun h => by cases h) h3
 | thru h1 h2 h3 h4 ih =>
   intro hb
   have ht := hT _ hb _ h1
   rw [(hF _ hb).1,enS_mem]
   refine ⟨_,h1,.inl ⟨?_,h2⟩⟩
   rw [(hF _ ht).2,begS_mem]
   have := ih ht
   simpa [this] using h3
end
def tot : List (List Int) → Nat
 | [] => 0
 | x :: l => x.length + tot l
theorem tot_set : ∀ {l : List (List Int)} {b : Nat} {x : List Int},b < l.length → tot (l.set b x) + (ix l b).length = tot l + x.length
 | y :: l,0,x,_ => by rw [List.set_cons_zero,tot,tot,ix_zero]; omega
 | y :: l,b + 1,x,h => by rw [List.set_cons_succ,tot,tot,ix_cons]; have := tot_set (l := l) (b := b) (x := x) (by simpa using h); omega
theorem ris_len : ∀ {l : List Int} {lo hi : Int},Ris l → lo ≤ hi → (∀ x ∈ l,lo ≤ x ∧ x < hi) → (l.length : Int) ≤ hi - lo
 | [],_,_,_,h,_ => by simp; omega
 | x :: l,lo,hi,hr,hlo,h => by
   rw [Ris,List.pairwise_cons] at hr
   have hx := h x (by simp)
   have := ris_len (l := l) (lo := x + 1) (hi := hi) hr.2 (by omega) (fun y hy => by have := hr.1 y hy; have := h y (by simp [hy]); omega)
   simp; omega
theorem tot_le {N : Nat} : ∀ {l : List (List Int)},(∀ x ∈ l,x.length ≤ N) → tot l ≤ N * l.length
 | [],_ => by simp [tot]
 | x :: l,h => by
   have h1 := h x (by simp)
   have h2 := tot_le (l := l) (fun y hy => h y (by simp [hy]))
   rw [tot,List.length_cons,Nat.mul_add]; omega
theorem ris_sub : ∀ {a b : List Int},Ris a → Ris b → (∀ x ∈ a,x ∈ b) → a.length ≤ b.length ∧ (a.length = b.length → a = b)
 | [],b,_,_,_ => ⟨Nat.zero_le _,fun h => (List.eq_nil_of_length_eq_zero h.symm).symm⟩
 | x :: a,[],_,_,h => absurd (h x (by simp)) (by simp)
 | x :: a,y :: b,ha,hb,h => by
   have ha' := List.pairwise_cons.1 ha
   have hb' := List.pairwise_cons.1 hb
   by_cases e : x = y
   · subst e
     have := ris_sub ha'.2 hb'.2 (fun z hz => by
       rcases List.mem_cons.1 (h z (by simp [hz])) with e | e
       · subst e; have := ha'.1 z hz; omega
       · exact e)
     refine ⟨by simp; omega,fun e => ?_⟩
     rw [this.2 (by simpa using e)]
   · have hx : x ∈ b := (List.mem_cons.1 (h x (by simp))).resolve_left e
     have hxy := hb'.1 x hx
     have := ris_sub ha hb'.2 (fun z hz => by
       have hzy : y < z := by
         rcases List.mem_cons.1 hz with rfl | hz
         · exact hxy
         · have := ha'.1 z hz; omega
       exact (List.mem_cons.1 (h z hz)).resolve_left (by omega))
     exact ⟨by have := this.1; simp at this ⊢; omega,fun e => by have := this.1; simp at this e; omega⟩
def rnd (bs : List D.MBlock) : Nat → List (List Int) × List (List Int) → List (List Int) × List (List Int)
 | 0,s => s
 | b + 1,s => rnd bs b (s.1.set b (enS bs s.2 b),s.2.set b (begS bs b (enS bs s.2 b)))
def itR (bs : List D.MBlock) : Nat → List (List Int) × List (List Int) → List (List Int) × List (List Int)
 | 0,s => s
 | k + 1,s => itR bs k (rnd bs bs.length s)
def loE (bs : List D.MBlock) : List (List Int) := (itR bs (16384 * bs.length + 1) (List.replicate bs.length [],List.replicate bs.length [])).1
structure WL (bs : List D.MBlock) : Prop where
 to : ∀ b,b < bs.length → ∀ t ∈ (ix bs b).End.To,1 ≤ t ∧ t < bs.length
 rg : ∀ b,b < bs.length → (∀ i ∈ (ix bs b).Ins,(∀ r ∈ takesM i,Rg r) ∧ ∀ r ∈ makesM i,Rg r) ∧ (∀ r ∈ nM9 (ix bs b).End,Rg r) ∧ ∀ p ∈ (ix bs b).Phis,Rg p.Dst ∧ ∀ x ∈ p.In,Rg x.Val
section
variable {bs : List D.MBlock} {E I : List (List Int)}
theorem WL.t (h : WL bs) {b : Nat} (hb : b < bs.length) : ∀ to ∈ (ix bs b).End.To,to.toNat < bs.length := fun t ht => by have := h.to b hb t ht; omega
theorem bkB_rg {r : Int} : ∀ {l : List D.Mach} {o : Bool},(∀ i ∈ l,∀ r ∈ takesM i,Rg r) → bkB r l o = true → Rg r ∨ o = true
 | [],_,_,h => .inr h
 | i :: l,o,hl,h => by
   rw [bkB] at h; split at h
   · rename_i h1; exact .inl (hl i (by simp) r h1)
   · split at h
     · cases h
     · exact bkB_rg (fun j hj => hl j (by simp [hj])) h
theorem WL.lo (h : WL bs) {b : Nat} {r : Int} (hL : LO bs b r) : b < bs.length → Rg r := by
 induction hL with
 | phi h1 h2 =>
   intro hb
   obtain ⟨p,h3,h4⟩ := List.mem_flatMap.1 h2
   obtain ⟨y,h5,rfl⟩ := List.mem_map.1 h4
   exact ((h.rg _ (h.t hb _ h1)).2.2 p h3).2 y (List.mem_filter.1 h5).1
 | gen h1 h2 h3 =>
   intro hb
   have hr := h.rg _ (h.t hb _ h1)
   unfold backB at h3
   rw [List.drop_zero] at h3
   rcases bkB_rg (fun i hi => (hr.1 i hi).1) h3 with h4 | h4
   · exact h4
   · exact hr.2.1 _ (by simpa using h4)
 | thru h1 h2 h3 h4 ih => intro hb; exact ih (h.t hb _ h1)
theorem WL.li (h : WL bs) {b : Nat} {r : Int} (hb : b < bs.length) (hL : LI bs b r) : Rg r := by
 rcases hL with h3 | h3
 · have hr := h.rg _ hb
   unfold backB at h3
   rw [List.drop_zero] at h3
   rcases bkB_rg (fun i hi => (hr.1 i hi).1) h3 with h4 | h4
   · exact h4
   · exact hr.2.1 _ (by simpa using h4)
 · exact h.lo h3.2 hb
theorem FS.small (h : FS bs E I) (hw : WL bs) : tot E + tot I ≤ 16384 * bs.length := by
 have h1 : tot E ≤ 8192 * E.length := tot_le fun x hx => by
   obtain ⟨b,hb,e⟩ := List.getElem_of_mem hx
   have hb' : b < bs.length := by rw [← h.le]; exact hb
   have e2 : ix E b = x := by rw [ix_eq hb]; exact e
   have := ris_len (l := x) (lo := 0) (hi := 8192) (by rw [← e2]; exact h.re b hb') (by omega) (fun r hr => by rw [← e2] at hr; exact hw.lo (h.so b hb' r hr) hb')
   omega
 have h2 : tot I ≤ 8192 * I.length := tot_le fun x hx => by
   obtain ⟨b,hb,e⟩ := List.getElem_of_mem hx
   have hb' : b < bs.length := by rw [← h.li]; exact hb
   have e2 : ix I b = x := by rw [ix_eq hb]; exact e
   have := ris_len (l := x) (lo := 0) (hi := 8192) (by rw [← e2]; exact h.ri b hb') (by omega) (fun r hr => by rw [← e2] at hr; exact hw.li hb' (h.si b hb' r hr))
   omega
 rw [h.le] at h1; rw [h.li] at h2; omega
theorem FS.grow (h : FS bs E I) {b : Nat} (hb : b < bs.length) (hT : ∀ to ∈ (ix bs b).End.To,to.toNat < bs.length) :
   tot E + tot I ≤ tot (E.set b (enS bs I b)) + tot (I.set b (begS bs b (enS bs I b))) ∧
   ((enS bs I b).length + (begS bs b (enS bs I b)).length = (ix E b).length + (ix I b).length → Fix bs E I b ∧ E.set b (enS bs I b) = E ∧ I.set b (begS bs b (enS bs I b)) = I) ∧
   ((enS bs I b).length + (begS bs b (enS bs I b)).length ≠ (ix E b).length + (ix I b).length → tot E + tot I < tot (E.set b (enS bs I b)) + tot (I.set b (begS bs b (enS bs I b)))) := by
 obtain ⟨_,h1,h2⟩ := h.step hb hT
 have s1 := ris_sub (h.re b hb) (enS_ris (bs := bs) (I := I) (n := b)) h1
 have s2 : (ix I b).length ≤ (begS bs b (enS bs I b)).length ∧ ((ix I b).length = (begS bs b (enS bs I b)).length → ix I b = begS bs b (enS bs I b)) := ris_sub (h.ri b hb) (sAt_ris (uniS_ris enS_ris)) h2
 have t1 := tot_set (l := E) (b := b) (x := enS bs I b) (by rw [h.le]; exact hb)
 have t2 := tot_set (l := I) (b := b) (x := begS bs b (enS bs I b)) (by rw [h.li]; exact hb)
 refine ⟨by omega,fun e => ?_,fun e => by omega⟩
 have e1 := s1.2 (by omega)
 have e2 := s2.2 (by omega)
 refine ⟨⟨e1,by rw [e1]; exact e2⟩,?_,?_⟩
 · have hb' : b < E.length := by rw [h.le]; exact hb
   rw [← e1,ix_eq hb']; exact List.set_getElem_self _
 · have hb' : b < I.length := by rw [h.li]; exact hb
   rw [← e2,ix_eq hb']; exact List.set_getElem_self _
theorem rnd_fs (hw : WL bs) : ∀ (b : Nat) (s : List (List Int) × List (List Int)),b ≤ bs.length → FS bs s.1 s.2 → FS bs (rnd bs b s).1 (rnd bs b s).2 ∧ tot s.1 + tot s.2 ≤ tot (rnd bs b s).1 + tot (rnd bs b s).2 ∧
   (tot s.1 + tot s.2 = tot (rnd bs b s).1 + tot (rnd bs b s).2 → rnd bs b s = s ∧ ∀ j,j < b → Fix bs s.1 s.2 j)
 | 0,s,_,h => ⟨h,Nat.le_refl _,fun _ => ⟨rfl,fun j hj => by omega⟩⟩
 | b + 1,s,hb,h => by
   have hs := h.step (b := b) (by omega) (hw.t (by omega))
   obtain ⟨g1,g2,g3⟩ := h.grow (b := b) (by omega) (hw.t (by omega))
   obtain ⟨a1,a2,a3⟩ := rnd_fs hw b (s.1.set b (enS bs s.2 b),s.2.set b (begS bs b (enS bs s.2 b))) (by omega) hs.1
   rw [rnd]
   dsimp only at a1 a2 a3
   refine ⟨a1,by omega,fun e => ?_⟩
   have e1 : (enS bs s.2 b).length + (begS bs b (enS bs s.2 b)).length = (ix s.1 b).length + (ix s.2 b).length := Classical.byContradiction fun hne => by have := g3 hne; omega
   obtain ⟨f1,f2,f3⟩ := g2 e1
   obtain ⟨c1,c2⟩ := a3 (by omega)
   rw [f2,f3] at c1 c2
   refine ⟨by rw [f2,f3]; exact c1,fun j hj => ?_⟩
   by_cases e2 : j = b
   · subst e2; exact f1
   · exact c2 j (by omega)
theorem itR_fix (hw : WL bs) : ∀ (k : Nat) (s : List (List Int) × List (List Int)),FS bs s.1 s.2 → FS bs (itR bs k s).1 (itR bs k s).2 ∧ ((∀ j,j < bs.length → Fix bs (itR bs k s).1 (itR bs k s).2 j) ∨ tot s.1 + tot s.2 + k ≤ tot (itR bs k s).1 + tot (itR bs k s).2)
 | 0,s,h => ⟨h,.inr (Nat.le_refl _)⟩
 | k + 1,s,h => by
   obtain ⟨a1,a2,a3⟩ := rnd_fs hw bs.length s (Nat.le_refl _) h
   rw [itR]
   obtain ⟨b1,b2⟩ := itR_fix hw k (rnd bs bs.length s) a1
   refine ⟨b1,?_⟩
   rcases b2 with b2 | b2
   · exact .inl b2
   · by_cases e : tot s.1 + tot s.2 = tot (rnd bs bs.length s).1 + tot (rnd bs bs.length s).2
     · obtain ⟨c1,c2⟩ := a3 e
       left
       rw [c1]
       have : ∀ k,itR bs k s = s := fun k => by
         induction k with
         | zero => rfl
         | succ k ih => rw [itR,c1]; exact ih
       rw [this]; exact c2
     · right; omega
theorem loE_fs (hw : WL bs) : ∃ I,FS bs (loE bs) I ∧ ∀ j,j < bs.length → Fix bs (loE bs) I j := by
 obtain ⟨a,b⟩ := itR_fix hw (16384 * bs.length + 1) (List.replicate bs.length [],List.replicate bs.length []) FS.start
 refine ⟨_,a,?_⟩
 rcases b with b | b
 · exact b
 · have := a.small hw; omega
theorem loE_len (hw : WL bs) : (loE bs).length = bs.length := by obtain ⟨I,h,_⟩ := loE_fs hw; exact h.le
theorem loE_ris (hw : WL bs) {b : Nat} (hb : b < bs.length) : Ris (ix (loE bs) b) := by obtain ⟨I,h,_⟩ := loE_fs hw; exact h.re b hb
theorem loE_mem (hw : WL bs) {b : Nat} (hb : b < bs.length) {r : Int} : r ∈ ix (loE bs) b ↔ LO bs b r := by
 obtain ⟨I,h,hF⟩ := loE_fs hw
 exact ⟨h.so b hb r,fun hL => h.done (fun b hb => hw.t hb) hF hL hb⟩
theorem FS.eq (h : FS bs E I) (hw : WL bs) (hF : ∀ j,j < bs.length → Fix bs E I j) : E = loE bs := by
 refine List.ext_getElem (by rw [h.le,loE_len hw]) fun j h1 h2 => ?_
 have hj : j < bs.length := by rw [← h.le]; exact h1
 have e1 : ix E j = E[j] := ix_eq h1
 have e2 : ix (loE bs) j = (loE bs)[j] := ix_eq h2
 rw [← e1,← e2]
 exact ris_ext (h.re j hj) (loE_ris hw hj) fun r => by rw [loE_mem hw hj]; exact ⟨h.so j hj r,fun hL => h.done (fun b hb => hw.t hb) hF hL hj⟩
end
abbrev U86 := @Tryz.underlying86
theorem foldl_take {α β : Type} [Inhabited β] (f : α → β → α) (a : α) {l : List β} {k : Nat} (h : k < l.length) : (l.take (k + 1)).foldl f a = f ((l.take k).foldl f a) (ix l k) := by rw [take_ix h,List.foldl_append]; rfl
theorem without_ct {g0 B0 : Nat} {S0 : List Int} {a1 : Value} {l : List Int} {N1 : Nat} : Tr Tryz.prog 109 #[.map (some g0),a1] [dv (rLn N1 (rI .i64)) a1 l] [sm B0 g0 S0] (fun _ : Unit => .tuple #[]) (fun _ => []) (fun _ _ => [sm B0 g0 (delS S0 l)]) := by
 refine jenter (args := [.map (some g0),a1]) Tryz.func109 rfl rfl rfl fun w0 X => ?_
 refine jq (jr (jm Z (jdq d0 fun q1 w1 => js (jln U22 d0 Z) (jm Z (jn (jx (jb ?_)))))))
 refine jlp (u2 fun (k : Nat) (Sk : List Int) => ⟨k ≤ l.length ∧ Sk = delS S0 (l.take k),[dv (rLn N1 (rI .i64)) a1 l],[sm B0 g0 Sk],[(0,(.map (some g0))),(6,a1),(7,.int .i64 (↑(List.length l))),(8,.int .i64 (↑k))],l.length - k⟩) (0,S0) ⟨by dsimp only; omega,rfl⟩ (dc d0 dn) (kc k0 kn) ⟨Z,Z,Z,eqI (by omega),trivial⟩ ?_
 rintro ⟨k,Sk⟩; dsimp only [u2]; rintro ⟨hk,hS⟩
 refine jq (jr (js (jlss Z Z) (jn (jx (jq ?_)))))
 refine jif Z (fun hc1 => ?_) (fun hc1 => ?_)
 refine jsk (jx (jq (jb (jq (jr (js (jix U22 Z3 d0 Z Z Z (by omega)) (js (jlI (dix d0 k (by omega)) O3 Z) (ja Z (jn (jx (jr ?_)))))))))))
 refine jm Z (jm Z (jsd U86 U3 k0 Z Z (jn (jbn (jx (jr (js (jadd Z Z (by omega)) (jm Z (jn ?_)))))))))
 exact jag (k + 1,zOut (ix l k) Sk) ⟨by dsimp only; omega,by dsimp only; unfold delS; rw [foldl_take _ _ (by omega)]; exact congrArg (zOut (ix l k)) hS⟩ (dc d0 dn) (kc k0 kn) ⟨Z,Z,Z,eqI (by omega),trivial⟩
 refine jex (jtx (jtx (jbh ?_)))
 exact jd0 Z () Z dn (fun _ _ => kcs (by rw [hS,List.take_of_length_le (by omega)]) k0 kn)
theorem with_ct {g0 B0 : Nat} {S0 : List Int} {a1 : Value} {l : List Int} {N1 : Nat} : Tr Tryz.prog 110 #[.map (some g0),a1] [dv (rLn N1 (rI .i64)) a1 l] [sm B0 g0 S0] (fun _ : Unit => .tuple #[]) (fun _ => []) (fun _ _ => [sm B0 g0 (uniS S0 l)]) := by
 refine jenter (args := [.map (some g0),a1]) Tryz.func110 rfl rfl rfl fun w0 X => ?_
 refine jq (jr (jm Z (jdq d0 fun q1 w1 => js (jln U22 d0 Z) (jm Z (jn (jx (jb ?_)))))))
 refine jlp (u2 fun (k : Nat) (Sk : List Int) => ⟨k ≤ l.length ∧ Sk = uniS S0 (l.take k),[dv (rLn N1 (rI .i64)) a1 l],[sm B0 g0 Sk],[(0,(.map (some g0))),(6,a1),(7,.int .i64 (↑(List.length l))),(8,.int .i64 (↑k))],l.length - k⟩) (0,S0) ⟨by dsimp only; omega,rfl⟩ (dc d0 dn) (kc k0 kn) ⟨Z,Z,Z,eqI (by omega),trivial⟩ ?_
 rintro ⟨k,Sk⟩; dsimp only [u2]; rintro ⟨hk,hS⟩
 refine jq (jr (js (jlss Z Z) (jn (jx (jq ?_)))))
 refine jif Z (fun hc1 => ?_) (fun hc1 => ?_)
 refine jsk (jx (jq (jb (jq (jr (js (jix U22 Z3 d0 Z Z Z (by omega)) (js (jlI (dix d0 k (by omega)) O3 Z) (ja Z (jn (jx (jr ?_)))))))))))
 refine jm Z (jm Z (jsu U86 U3 k0 Z Z Z (jn (jbn (jx (jr (js (jadd Z Z (by omega)) (jm Z (jn ?_)))))))))
 exact jag (k + 1,zIn (ix l k) Sk) ⟨by dsimp only; omega,by dsimp only; unfold uniS; rw [foldl_take _ _ (by omega)]; exact congrArg (zIn (ix l k)) hS⟩ (dc d0 dn) (kc k0 kn) ⟨Z,Z,Z,eqI (by omega),trivial⟩
 refine jex (jtx (jtx (jbh ?_)))
 exact jd0 Z () Z dn (fun _ _ => kcs (by rw [hS,List.take_of_length_le (by omega)]) k0 kn)
theorem vis_nd {vis : List Int} {y : Int} (h : vis.Nodup) (hn : y ∉ vis) : (vis ++ [y]).Nodup := by
 rw [List.nodup_append]; exact ⟨h,by simp,fun a ha b hb => by simp at hb; subst hb; rintro rfl; exact hn ha⟩
theorem vis_in {vis S : List Int} {y : Int} (h : ∀ z ∈ vis,z ∈ S) (hy : y ∈ S) : ∀ z ∈ vis ++ [y],z ∈ S := fun z hz => by
 rcases List.mem_append.1 hz with hz | hz
 · exact h z hz
 · simp at hz; subst hz; exact hy
theorem vis_zin {vis So : List Int} {x : Int} (h : ∀ y,y ∈ So ↔ y ∈ vis) (y : Int) : y ∈ zIn x So ↔ y ∈ vis ++ [x] := by
 rw [zIn_mem,h]; simp [or_comm]
theorem vis_lt {vis S : List Int} {y : Int} (h : vis.Nodup) (hs : ∀ z ∈ vis,z ∈ S) (hy : y ∈ S) (hn : y ∉ vis) : vis.length < S.length := by
 have h1 := (vis_nd h hn).length_le_of_subset (l₂ := S) (fun z hz => vis_in hs hy z hz)
 simp at h1; omega
theorem vis_len {vis S : List Int} (h : vis.Nodup) (hs : ∀ z ∈ vis,z ∈ S) : vis.length ≤ S.length := h.length_le_of_subset hs
theorem vis_all {vis S : List Int} (hs : ∀ z ∈ vis,z ∈ S) (h : ∀ y ∈ S,y ∈ vis) (y : Int) : y ∈ vis ↔ y ∈ S := ⟨hs y,h y⟩
theorem setClone_ct {a0 : Value} {S0 : List Int} : Tr Tryz.prog 108 #[a0] [dv rSet a0 (some S0)] [] (fun g : Nat => .map (some g)) (fun _ => []) (fun B g => [sm B g S0]) := by
 refine jenter (args := [a0]) Tryz.func108 rfl rfl rfl fun w0 X => ?_
 refine csR d0 fun hris => jq (jr (ja Z (jn (jx (jq (jr (jsm fun g5 => ja Z (jn (jx ?_)))))))))
 refine jq (jq (jr (jm Z (jrs U86 d0 Z fun g7 => jn (jx (jb ?_))))))
 refine jlp (u2 fun (vis : List Int) (So : List Int) => ⟨vis.Nodup ∧ (∀ y ∈ vis,y ∈ S0) ∧ Ris So ∧ (∀ y,y ∈ So ↔ y ∈ vis),[dv rSet a0 (some S0)],[sit g7 a0 S0 vis,sm X.n g5 So],[(2,.map none),(3,(.map (some g5))),(7,(.pointer (some ⟨g7,0,none⟩)))],S0.length - vis.length⟩) ([],[]) ⟨by simp,by simp,by simp [Ris],by simp⟩ (dc d0 dn) (kd kn) ⟨Z,Z,Z,trivial⟩ ?_
 rintro ⟨vis,So⟩; dsimp only [u2]; rintro ⟨hvn,hvs,hro,hso⟩
 refine jq (jr ?_)
 refine jns k0 Z (fun hd1 => ?_) (fun y1 hy1 hn1 => ?_)
 refine js (jex' Z Z) (jn (jx (jq ?_)))
 refine jif Z (fun hc1 => ?_) (fun hc1 => ?_)
 exact absurd hc1 (by simp)
 refine jex (jtx (jtx (jbh (jx (jq (jr (jm Z (ja Z (jn (jx (jrt ?_)))))))))))
 exact jr1 Z Z g5 Z dn (fun _ hB => klS (ris_ext hris hro (fun y => by rw [hso,vis_all hvs hd1])) hB k1 kn)
 have hlt1 := vis_lt hvn hvs hy1 hn1
 refine js (jex' Z Z) (jn (jx (jq ?_)))
 refine jif Z (fun hc2 => ?_) (fun hc2 => ?_)
 refine jsk (jx (jb (jq (jr (js (jes k0 hy1 Z) (js (jex' Z Z) (ja Z (jn (jx (jr (jm Z ?_)))))))))))
 refine jm Z (jsu U86 U3 k1 Z Z Z (jn (jbn ?_)))
 exact jag (vis ++ [y1],zIn y1 So) ⟨vis_nd hvn hn1,vis_in hvs hy1,zIn_ris hro,fun y => vis_zin hso y⟩ (dc d0 dn) (kc k1 (kc k0 kn)) ⟨Z,Z,Z,trivial⟩ (by dsimp only [u2]; rw [List.length_append]; simp; omega)
 exact absurd hc2 (by simp)
open Go.Shelf Go.JE
shelf_lay Lays.n189 Nm 189 at Tryz as Tryz.lays189
open Go.Sort Go.RowKit in
theorem Tryz.sort_int (blk off cap : Nat) (zs : List Int) (w : World) (hH : Holds (Value.int .i64) w blk off zs.toArray) (hblk : blk < w.heap.size) (hsz : zs.length < 4611686018427387904) :
   Calls Tryz.prog 67 #[.slice (some ⟨blk,off,none⟩) zs.length cap] w fun e w' =>
     e = .returned (.tuple #[]) ∧ ∃ n os,w' = grow (putRow (Value.int .i64) (Sort.ahead w n) blk off (zs.mergeSort fun x y => decide (x ≤ y)).toArray) os := Any.slices_Sort_int Tryz.lays189 blk off cap zs w hH hblk hsz
theorem Tryz.sort_none (p : Option Addr) (cap : Nat) (w : World) :
   Calls Tryz.prog 67 #[.slice p 0 cap] w fun e w' => e = .returned (.tuple #[]) ∧ w' = w := Any.slices_Sort_int_none Tryz.lays189 p cap w
def sortM (l : List Int) : List Int := l.mergeSort fun x y => decide (x ≤ y)
open Go.Sort Go.RowKit in
theorem sort_ct {F : PH} {H : Heap} (hin : InH F H) {B : Nat} {v : Value} {l : List Int} (p : Gl (rI .i64) 3 F H B v l) (hl : l.length < 1073741824) :
   Ct Tryz.prog 67 #[v] H (fun u H' => u = .tuple #[] ∧ Kw (own1 v) H H' ∧ Gl (rI .i64) 3 F H' B v (sortM l)) := by
 obtain ⟨xs,o1,o2,o3⟩ := p
 have hlen : (sortM l).length = l.length := List.length_mergeSort l
 intro w hw
 rcases o1.2 with ⟨rfl,e2⟩ | ⟨g,cap,cur,rfl,hb,hg,hc1,hc2,hc3,hc4⟩
 · refine (Tryz.sort_none none 0 w).mono ?_
   rintro e w' ⟨rfl,rfl⟩
   have hn : l = [] := List.eq_nil_of_length_eq_zero e2
   subst hn
   refine ⟨_,rfl,rfl,rfl,rfl,rfl,by rw [hw]; exact Kw.refl _ _,?_⟩
   rw [show sortM [] = [] from by simp [sortM]]; exact Gl.nil _ _ _
 · have hgl : g < w.heap.size := by rw [hw]; exact (Array.getElem?_eq_some_iff.1 hg).1
   have hxl : xs.length = l.length := by have := o1.1; rw [show (rI .i64).sz = 1 from rfl,Nat.mul_one] at this; exact this
   have hxs : xs = l.map (Value.int .i64) := by
     apply List.ext_getElem (by rw [hxl,List.length_map])
     intro i h1 h2
     rw [List.getElem_map]
     have : xs.getD (i * 1 + 0) undef = Value.int .i64 l[i] := (o3 i (by omega)).1
     rw [Nat.mul_one,Nat.add_zero,List.getD_eq_getElem?_getD,List.getElem?_eq_getElem h1] at this
     exact this
   have ht : cur.toList.take l.length = l.map (Value.int .i64) := by
     rw [← hxs,← hc4,show (rI .i64).sz = 1 from rfl,Nat.mul_one]
   have hH := holds_of_blockI (w := w) (g := g) (cur := cur) (e := 3) (ss := l) (by rw [hw]; exact hg) ht
   refine (Tryz.sort_int g 0 cap l w hH hgl (by omega)).mono ?_
   rintro e w' ⟨rfl,n,os,rfl⟩
   have hgb := grownBy_sortedI (w := w) (g := g) (n := n) (os := os) (sortM l).toArray
   have hro := ownsRow_sortedI (w := w) (base := B) (g := g) (cap := cap) (n := n) (e := 3) (os := os) (cur := cur) (ss := l) (ts := sortM l) hlen hb (by rw [hw]; exact hg) hc1 hc2 hc3
   refine ⟨_,rfl,hgb.os,hgb.tape,hgb.output,rfl,⟨by rw [← hw]; exact hgb.size,fun k hk hn => ?_⟩,?_⟩
   · rw [← hw] at hk ⊢
     exact hgb.block k hk (fun e1 => hn (show some g = some k from e1.symm))
   · refine ⟨(sortM l).map (Value.int .i64),?_,o2,fun i hi => ?_⟩
     · rw [hlen]; exact Gr.owns.1 hro
     · have hm : (sortM l)[i] ∈ l := (List.mergeSort_perm l _).subset (List.getElem_mem hi)
       obtain ⟨j,hj,e1⟩ := List.getElem_of_mem hm
       refine ⟨?_,?_⟩
       · show ((sortM l).map (Value.int .i64)).getD (i * 1 + 0) undef = _
         rw [Nat.mul_one,Nat.add_zero,List.getD_eq_getElem?_getD,List.getElem?_map,List.getElem?_eq_getElem hi]; rfl
       · rw [← e1]; exact (o3 j hj).2
open Go.JE in
theorem sortT {B : Nat} {v : Value} {l : List Int} (hl : l.length < 1073741824) : Tr Tryz.prog 67 #[v] [] [gl B (rI .i64) 3 v l] (fun _ : Unit => .tuple #[]) (fun _ => []) (fun _ _ => [gl B (rI .i64) 3 v (sortM l)]) := fun F H hin _ ho =>
 (sort_ct hin ho.1.1 hl).mono fun u H' ⟨h1,h2,h3⟩ => ⟨(),F,h1,fun B' _ => ⟨PH.ext.refl F,hin.kw h2 (fun k hk => ho.1.1.no k hk),⟨h2.1,fun k hk hn => h2.2 k hk (fun h => hn (.inl h))⟩,trivial,⟨⟨h3,Nat.le_trans ho.1.2 h2.1⟩,fun _ _ => id,trivial⟩,fun k hk => .inr hk⟩⟩
theorem sortM_mem {l : List Int} {x : Int} : x ∈ sortM l ↔ x ∈ l := (List.mergeSort_perm l _).mem_iff
theorem sortM_le (l : List Int) : (sortM l).Pairwise (· ≤ ·) := by
 have h := List.pairwise_mergeSort (le := fun x y : Int => decide (x ≤ y)) (fun a b c h1 h2 => by simp at *; omega) (fun a b => by simp; omega) l
 exact h.imp (fun h => by simpa using h)
theorem sortM_nodup {l : List Int} (h : l.Nodup) : (sortM l).Nodup := (List.mergeSort_perm l _).nodup_iff.2 h
theorem E67 : Ent Tryz.prog 67 := ⟨_,Tryz.func67,by kernel_rfl,by kernel_rfl⟩
theorem sort_ris {vis S : List Int} (hn : vis.Nodup) (hr : Ris S) (h : ∀ y,y ∈ vis ↔ y ∈ S) : sortM vis = S := by
 refine ris_ext ?_ hr (fun y => by rw [sortM_mem,h])
 have h1 := sortM_le vis
 have h2 := sortM_nodup hn
 exact (h1.and h2).imp (fun ⟨a,b⟩ => by omega)
theorem sorted_ct {a0 : Value} {S0 : List Int} (hw : ∀ y ∈ S0,IntKind.i64.wrap y = y) (hsz : S0.length < 1000000) : Tg Tryz.prog 39 #[a0] [dv rSet a0 (some S0)] [] (rI .i64) 3 S0 := by
 refine jenter (args := [a0]) Tryz.func39 rfl rfl rfl fun w0 X => ?_
 refine csR d0 fun hris => jq (jr (ja Z (jn (jx (jq (jr (ja Z (jn (jx (jq ?_))))))))))
 refine jq (jr (jm Z (jrs U86 d0 Z fun g6 => jn (jx (jb (cnl (r := (rI .i64)) (E := 3) ?_))))))
 refine jlp (u2 fun (vis : List Int) (vo : Value) => ⟨vis.Nodup ∧ (∀ y ∈ vis,y ∈ S0),[dv rSet a0 (some S0)],[gl X.n (rI .i64) 3 vo vis,sit g6 a0 S0 vis],[(2,.slice none 0 0),(3,vo),(6,(.pointer (some ⟨g6,0,none⟩)))],S0.length - vis.length⟩) ([],.slice none 0 0) ⟨by simp,by simp⟩ (dc d0 dn) (kd kn) ⟨Z,Z,Z,trivial⟩ ?_
 rintro ⟨vis,vo⟩; dsimp only [u2]; rintro ⟨hvn,hvs⟩
 refine cgo k0 fun w1 => jq (jr ?_)
 refine jns k1 Z (fun hd1 => ?_) (fun y1 hy1 hn1 => ?_)
 refine js (jex' Z Z) (jn (jx (jq ?_)))
 refine jif Z (fun hc1 => ?_) (fun hc1 => ?_)
 exact absurd hc1 (by simp)
 refine jex (jtx (jtx (jbh (jx (jq (jr (jm Z (jc E67 Z Z (sortT (by have := vis_len hvn hvs; omega)) dn (kc k1 kn) (fun _ => p0) (fun _ => p1) fun _ => jn (jx (jq ?_))))))))))
 refine jr (jm Z (ja Z (jn (jx (jrt ?_)))))
 exact jrG Z Z (sort_ris hvn hris (vis_all hvs hd1)).symm k0
 have hlt1 := vis_lt hvn hvs hy1 hn1
 have wy1 := hw y1 hy1
 refine js (jex' Z Z) (jn (jx (jq ?_)))
 refine jif Z (fun hc2 => ?_) (fun hc2 => ?_)
 refine jsk (jx (jb (jq (jr (js (jes k0 hy1 Z) (js (jex' Z Z) (ja Z (jn (jx (jr (jm Z ?_)))))))))))
 refine jm Z (japv U22 I3 (by decide) Z Z k1 Z (wI (wp wy1)) (by omega) (fun _ => Z) fun v14 _ w2 => ja Z (jn (jbn ?_)))
 exact jag (vis ++ [y1],v14) ⟨vis_nd hvn hn1,vis_in hvs hy1⟩ (dc d0 dn) (kd kn) ⟨Z,Z,Z,trivial⟩ (by dsimp only [u2]; rw [List.length_append]; simp; omega)
 exact absurd hc2 (by simp)
structure D.live_flow where
 m : D.MFunc
 ends : List (Option (List Int))
 places : List (List (Option (List Int)))
deriving DecidableEq
instance : Inhabited D.live_flow := ⟨⟨default,[],[]⟩⟩
def rlive_flowN (N : Nat) : Rp D.live_flow := rM (rP (rMFuncN N) (rP (rLn N rSet) (rLn N (rLn N rSet)))) (fun m => (m.m,m.ends,m.places))
abbrev rlive_flow : Rp D.live_flow := rlive_flowN 1073741824
theorem rlive_flow.any {N : Nat} {F : PH} {v : Value} {m : D.live_flow} (h : (rlive_flowN N).ra F v m) : ∃ f,(rlive_flowN N).ok F m f := by obtain ⟨l,_,_,h⟩ := h; exact ⟨_,h⟩
theorem rlive_flow.open {N : Nat} {F : PH} {v : Value} {m : D.live_flow} (h : (rlive_flowN N).ra F v m) : ∃ c1 c2 c3,v = .agg #[.int .i64 m.m.Params,c1,c2,c3] ∧ (rLn N (rMBlockN N)).rv F c1 m.m.Blocks ∧ (rLn N rSet).rv F c2 m.ends ∧ (rLn N (rLn N rSet)).rv F c3 m.places := by
 obtain ⟨l,rfl,hl,h⟩ := h
 match l,hl with
 | [a0,a1,a2,a3],_ =>
   obtain ⟨⟨⟨h0,_⟩,h1⟩,h2,h3⟩ := h
   obtain rfl : a0 = _ := h0
   exact ⟨a1,a2,a3,rfl,h1,h2,h3⟩
theorem rlive_flow.mk {N : Nat} {F : PH} {m : D.live_flow} {c1 : Value} {c2 : Value} {c3 : Value} (h1 : (rLn N (rMBlockN N)).rv F c1 m.m.Blocks) (h2 : (rLn N rSet).rv F c2 m.ends) (h3 : (rLn N (rLn N rSet)).rv F c3 m.places) (w0 : IntKind.i64.wrap m.m.Params = m.m.Params) : (rlive_flowN N).ra F (.agg #[.int .i64 m.m.Params,c1,c2,c3]) m := ⟨[.int .i64 m.m.Params,c1,c2,c3],rfl,rfl,⟨⟨⟨rfl,w0⟩,h1⟩,h2,h3⟩⟩
@[reducible] def vlive_flow (m : D.live_flow) (c : Value × Value × Value) : Value := .agg #[.int .i64 m.m.Params,c.1,c.2.1,c.2.2]
theorem slive_flow {N : Nat} : Sr (rlive_flowN N) vlive_flow := ⟨fun h => by obtain ⟨c1,c2,c3,e,_,_,_⟩ := rlive_flow.open h; exact ⟨(c1,c2,c3),e⟩⟩
theorem rlive_flow.M {N : Nat} {Γ : List Dt} {L : List Res} {m : D.live_flow} {c : Value × Value × Value} (h0 : Nd Γ L (dv (rLn N (rMBlockN N)) c.1 m.m.Blocks)) (h1 : Nd Γ L (dv (rLn N rSet) c.2.1 m.ends)) (h2 : Nd Γ L (dv (rLn N (rLn N rSet)) c.2.2 m.places)) (w0 : Wr Γ L .i64 m.m.Params) : Nd Γ L (da (rlive_flowN N) (vlive_flow m c) m) := fun F H x y z => rlive_flow.mk (m := m) (h0 F H x y z) (h1 F H x y z) (h2 F H x y z) (w0 F H x y z)
abbrev OS := Option (List Int)
def blkP (x : D.MBlock) (e : List Int) : List OS := (List.range (x.Ins.length + 1)).map (fun p => some (sAt (x.Ins.drop p) (uniS e (nM9 x.End))))
theorem blkP_len {x : D.MBlock} {e : List Int} : (blkP x e).length = x.Ins.length + 1 := by simp [blkP]
theorem blkP_ix {x : D.MBlock} {e : List Int} {p : Nat} (h : p ≤ x.Ins.length) : ix (blkP x e) p = some (sAt (x.Ins.drop p) (uniS e (nM9 x.End))) := by
 rw [ix_eq (by rw [blkP_len]; omega)]; simp [blkP]
theorem blkP_eq {x : D.MBlock} {e : List Int} {R : List OS} (hl : R.length = x.Ins.length + 1) (h : ∀ j,j ≤ x.Ins.length → ix R j = some (sAt (x.Ins.drop j) (uniS e (nM9 x.End)))) : R = blkP x e := by
 refine List.ext_getElem (by rw [hl,blkP_len]) fun j h1 h2 => ?_
 have e1 := h j (by omega)
 have e2 := blkP_ix (x := x) (e := e) (p := j) (by omega)
 rw [ix_eq h1] at e1; rw [ix_eq h2] at e2; rw [e1,e2]
structure FP (bs : List D.MBlock) (E I : List (List Int)) (Es : List OS) (vs : List Value) (Ps : List (List OS)) : Prop where
 fs : FS bs E I
 es : Es = E.map some
 vl : vs.length = bs.length
 pl : Ps.length = bs.length
 pr : ∀ b,b < bs.length → (ix Ps b).length = (ix bs b).Ins.length + 1 ∧ ix (ix Ps b) 0 = some (ix I b)
section
variable {bs : List D.MBlock} {E I : List (List Int)} {Es : List OS} {vs : List Value} {Ps : List (List OS)}
theorem FP.el (h : FP bs E I Es vs Ps) : Es.length = bs.length := by rw [h.es,List.length_map]; exact h.fs.le
theorem FP.ee (h : FP bs E I Es vs Ps) {b : Nat} (hb : b < bs.length) : some (ix E b) = ix Es b := by
 have h1 : b < E.length := by rw [h.fs.le]; exact hb
 rw [h.es,ix_eq (l := E.map some) (by rw [List.length_map]; exact h1),ix_eq (l := E) h1]; simp
theorem FP.pg (h : FP bs E I Es vs Ps) {b : Nat} (hb : b < bs.length) : Ps.getD b [] = ix Ps b ∧ (Ps.getD b []).length = (ix bs b).Ins.length + 1 ∧ some (ix I b) = ix (Ps.getD b []) 0 := ⟨rfl,(h.pr b hb).1,(h.pr b hb).2.symm⟩
theorem FP.step (h : FP bs E I Es vs Ps) (hw : WL bs) {b : Nat} (hb : b < bs.length) : FP bs (E.set b (enS bs I b)) (I.set b (begS bs b (enS bs I b))) (Es.set b (some (enS bs I b))) vs (Ps.set b (blkP (ix bs b) (enS bs I b))) where
 fs := (h.fs.step hb (hw.t hb)).1
 es := by rw [h.es,List.map_set]
 vl := h.vl
 pl := by rw [List.length_set]; exact h.pl
 pr := fun j hj => by
   rw [ix_set (by rw [h.pl]; exact hb),ixS h.fs.li hb]
   split
   · rename_i e; subst e
     refine ⟨blkP_len,?_⟩
     rw [blkP_ix (Nat.zero_le _),List.drop_zero]; rfl
   · exact h.pr j hj
theorem FS.lenE (h : FS bs E I) (hw : WL bs) {b : Nat} (hb : b < bs.length) : (ix E b).length ≤ 8192 ∧ (ix I b).length ≤ 8192 := by
 have h1 := ris_len (l := ix E b) (lo := 0) (hi := 8192) (h.re b hb) (by omega) (fun r hr => hw.lo (h.so b hb r hr) hb)
 have h2 := ris_len (l := ix I b) (lo := 0) (hi := 8192) (h.ri b hb) (by omega) (fun r hr => hw.li hb (h.si b hb r hr))
 omega
theorem FS.lenN (h : FS bs E I) (hw : WL bs) {b : Nat} (hb : b < bs.length) : (enS bs I b).length ≤ 8192 ∧ (begS bs b (enS bs I b)).length ≤ 8192 := by
 have h1 := (h.step hb (hw.t hb)).1.lenE hw hb
 rw [ix_set (by rw [h.le]; exact hb),if_pos rfl,ix_set (by rw [h.li]; exact hb),if_pos rfl] at h1
 exact h1
end
theorem Rg.w {y : Int} (h : Rg y) : IntKind.i64.wrap y = y := IntWalk.i64_in _ (by unfold Rg at h; omega)
theorem en_phi {bs : List D.MBlock} {n : Int} {x : D.MBlock} {S : List Int} {k : Nat} (hk : k < x.Phis.length) {T : List Int} (hT : T = uniS S ((x.Phis.take k).flatMap (fun p => (p.In.filter (fun y => decide (y.From = n))).map (fun y => y.Val)))) {T' : List Int} (hT' : T' = uniS T (((ix x.Phis k).In.filter (fun y => decide (y.From = n))).map (fun y => y.Val))) :
   T' = uniS S ((x.Phis.take (k + 1)).flatMap (fun p => (p.In.filter (fun y => decide (y.From = n))).map (fun y => y.Val))) := by
 rw [hT',hT,take_ix hk,List.flatMap_append]
 unfold uniS
 rw [List.foldl_append]; simp
theorem en_in {n : Int} {l : List D.In} {T U : List Int} {k : Nat} (hk : k < l.length) (hU : U = uniS T (((l.take k).filter (fun y => decide (y.From = n))).map (fun y => y.Val))) (h : (ix l k).From = n) : uniS U [(ix l k).Val] = uniS T (((l.take (k + 1)).filter (fun y => decide (y.From = n))).map (fun y => y.Val)) := by
 rw [hU,take_ix hk,List.filter_append]
 simp only [List.filter_cons,h,decide_true,if_true,List.filter_nil,List.map_append,List.map_cons,List.map_nil]
 unfold uniS; rw [List.foldl_append]
theorem en_no {n : Int} {l : List D.In} {T U : List Int} {k : Nat} (hk : k < l.length) (hU : U = uniS T (((l.take k).filter (fun y => decide (y.From = n))).map (fun y => y.Val))) (h : ¬ (ix l k).From = n) : U = uniS T (((l.take (k + 1)).filter (fun y => decide (y.From = n))).map (fun y => y.Val)) := by
 rw [hU,take_ix hk,List.filter_append]
 simp [h]
theorem del_one {S : List Int} {l : List D.Phi} {k : Nat} (hk : k < l.length) {T : List Int} (hT : T = delS S ((l.take k).map (fun p => p.Dst))) : delS T [(ix l k).Dst] = delS S ((l.take (k + 1)).map (fun p => p.Dst)) := by
 rw [hT,take_ix hk,List.map_append]; unfold delS; rw [List.foldl_append]; rfl
theorem uni_vis {e A vis : List Int} {x : Int} {T : List Int} (hT : Ris T ∧ ∀ y,y ∈ T ↔ y ∈ e ∨ y ∈ vis) : Ris (uniS T [x]) ∧ ∀ y,y ∈ uniS T [x] ↔ y ∈ e ∨ y ∈ vis ++ [x] := by
 refine ⟨uniS_ris hT.1,fun y => ?_⟩
 rw [uniS_mem,hT.2,List.mem_append]
 constructor
 · rintro ((h | h) | h)
   · exact .inl h
   · exact .inr (.inl h)
   · exact .inr (.inr h)
 · rintro (h | h | h)
   · exact .inl (.inl h)
   · exact .inl (.inr h)
   · exact .inr h
theorem uni_all {e A vis T : List Int} (he : Ris e) (hT : Ris T ∧ ∀ y,y ∈ T ↔ y ∈ e ∨ y ∈ vis) (h : ∀ y,y ∈ vis ↔ y ∈ A) : T = uniS e A := ris_ext hT.1 (uniS_ris he) (fun y => by rw [hT.2,uniS_mem,h])
theorem things_code : ∀ (bs : List D.MBlock) (b : Nat) (n : Int) (t : Int × Int × Int),thingsW n b bs = some t → t.1 ≠ 0 := by
 intro bs
 induction bs with
 | nil => intro b n t h; cases h
 | cons x l ih =>
   intro b n t h
   rw [thingsW] at h
   cases hb : blockW n x with
   | none => rw [hb] at h; exact ih _ _ _ h
   | some u =>
     rw [hb] at h
     cases h
     show u.1 ≠ 0
     unfold blockW at hb
     have hp : ∀ (P l : List D.Phi) (k : Nat) (u : Int × Int),phiW P k l = some u → u.1 ≠ 0 := by
       intro P l
       induction l with
       | nil => intro k u h; cases h
       | cons p l ih2 => intro k u h; rw [phiW] at h; split at h; (· exact ih2 _ _ h); cases h; assumption
     have hi : ∀ (l : List D.Mach) (k : Nat) (u : Int × Int),insW k l = some u → u.1 ≠ 0 := by
       intro l
       induction l with
       | nil => intro k u h; cases h
       | cons p l ih2 => intro k u h; rw [insW] at h; split at h; (· exact ih2 _ _ h); cases h; assumption
     cases h1 : phiW x.Phis 0 x.Phis with
     | some t => rw [h1] at hb; cases hb; exact hp _ _ _ _ h1
     | none =>
       rw [h1] at hb
       cases h2 : insW 0 x.Ins with
       | some t => rw [h2] at hb; cases hb; exact hi _ _ _ h2
       | none =>
         rw [h2] at hb
         by_cases h3 : endE x.End n = 0
         · simp only [if_pos h3] at hb; cases hb
         · simp only [if_neg h3] at hb; cases hb; exact h3
theorem cntB_mem : ∀ {l : List D.MBlock} {x : D.MBlock},x ∈ l → (x.Ins.length : Int) ≤ cntB l ∧ 0 ≤ cntB l
 | y :: l,x,h => by
   have h0 : 0 ≤ cntB l := by cases l with | nil => exact Int.le_refl _ | cons z l => exact (cntB_mem (x := z) (by simp)).2
   rw [cntB]
   rcases List.mem_cons.1 h with rfl | h
   · omega
   · have := cntB_mem h; omega
theorem right_none {m : D.MFunc} (h : rightM m = true) : thingsW m.Blocks.length 0 m.Blocks = none ∧ cntB m.Blocks ≤ 16384 := by
 unfold rightM at h
 rw [decide_eq_true_eq] at h
 unfold funcM at h
 split at h
 · cases h
 split at h
 · cases h
 split at h
 · cases h
 rename_i h1 h2 h3
 cases ht : thingsW m.Blocks.length 0 m.Blocks with
 | some t => rw [ht] at h; exact absurd h (things_code _ _ _ _ ht)
 | none => exact ⟨rfl,by omega⟩
theorem right_wl {m : D.MFunc} (h : rightM m = true) : WL m.Blocks where
 to := fun b hb => ((right_wf h).to _ (ix_mem hb)).2
 rg := fun b hb => by
   obtain ⟨h1,h2,h3⟩ := things_none _ _ (right_none h).1 (ix m.Blocks b) (ix_mem hb)
   refine ⟨fun i hi => ?_,?_,fun p hp => ?_⟩
   · have h9 := insW_none h2 i hi
     unfold insE at h9
     split at h9
     · cases h9
     split at h9
     · cases h9
     rename_i ha hb
     simp only [not_or,Bool.not_eq_false] at hb
     exact ⟨regM_all hb.2,regM_all hb.1⟩
   · unfold endE at h3
     split at h3
     · cases h3
     split at h3
     · cases h3
     rename_i hb
     exact regM_all (by simpa using hb)
   · obtain ⟨j,hj⟩ := phiW_none h1 p hp
     unfold phiE at hj
     split at hj
     · cases hj
     rename_i h5
     simp only [not_or,Bool.not_eq_false,Bool.not_eq_true] at h5
     refine ⟨regM_all h5.1 p.Dst (by simp),fun x hx => ?_⟩
     have h6 := h5.2
     unfold anyM at h6
     rw [List.any_eq_false] at h6
     have h7 := h6 x hx
     simp only [Bool.not_eq_true,Bool.not_eq_false'] at h7
     exact regM_all h7 x.Val (by simp)
theorem right_ins {m : D.MFunc} (h : rightM m = true) : ∀ b,b < m.Blocks.length → (ix m.Blocks b).Ins.length < 1000000 := fun b hb => by
 have h1 := (cntB_mem (ix_mem (l := m.Blocks) hb)).1
 have h2 := (right_none h).2
 omega
def plM (bs : List D.MBlock) : List (List OS) := (List.range bs.length).map (fun b => blkP (ix bs b) (ix (loE bs) b))
def blkC (bs : List D.MBlock) (E I : List (List Int)) (n : Nat) : Bool := !decide (((enS bs I n).length : Int) + ((begS bs n (enS bs I n)).length : Int) = ((ix E n).length : Int) + ((ix I n).length : Int))
structure OL (bs : List D.MBlock) (p : Nat) (c : Bool) (t0 : Nat) (E I : List (List Int)) (Es : List OS) (vs : List Value) (Ps : List (List OS)) : Prop where
 fp : FP bs E I Es vs Ps
 le : t0 ≤ tot E + tot I
 lt : c = true → t0 < tot E + tot I
 fx : c = false → ∀ j,p ≤ j → j < bs.length → Fix bs E I j ∧ ix Ps j = blkP (ix bs j) (ix E j)
section
variable {bs : List D.MBlock} {E I : List (List Int)} {Es : List OS} {vs : List Value} {Ps : List (List OS)} {t0 p : Nat} {c : Bool}
theorem OL.step (h : OL bs p c t0 E I Es vs Ps) (hw : WL bs) (hp : 0 < p) (hp2 : p ≤ bs.length) {c' : Bool} (hc : c' = (blkC bs E I (p - 1) || c)) :
   OL bs (p - 1) c' t0 (E.set (p - 1) (enS bs I (p - 1))) (I.set (p - 1) (begS bs (p - 1) (enS bs I (p - 1)))) (Es.set (p - 1) (some (enS bs I (p - 1)))) vs (Ps.set (p - 1) (blkP (ix bs (p - 1)) (enS bs I (p - 1)))) := by
 have hb : p - 1 < bs.length := by omega
 obtain ⟨g1,g2,g3⟩ := h.fp.fs.grow hb (hw.t hb)
 have hl := h.le
 refine ⟨h.fp.step hw hb,by omega,fun hc' => ?_,fun hc' => ?_⟩
 · rw [hc',eq_comm,Bool.or_eq_true] at hc
   rcases hc with hc | hc
   · unfold blkC at hc
     simp only [Bool.not_eq_true',decide_eq_false_iff_not] at hc
     have := g3 (by omega); omega
   · have := h.lt hc; omega
 · rw [hc',eq_comm,Bool.or_eq_false_iff] at hc
   obtain ⟨hc,hc2⟩ := hc
   unfold blkC at hc
   simp only [Bool.not_eq_false',decide_eq_true_eq] at hc
   obtain ⟨f1,f2,f3⟩ := g2 (by omega)
   rw [f2,f3]
   intro j hj hj2
   rw [ix_set (by rw [h.fp.pl]; exact hb)]
   split
   · rename_i e; subst e
     refine ⟨f1,?_⟩
     have e2 : enS bs I (p - 1) = ix E (p - 1) := by
       have e3 : ix (E.set (p - 1) (enS bs I (p - 1))) (p - 1) = enS bs I (p - 1) := by rw [ix_set (by rw [h.fp.fs.le]; exact hb),if_pos rfl]
       rw [f2] at e3; exact e3.symm
     rw [e2]
   · exact h.fx hc2 j (by omega) hj2
theorem OL.beg (h : FP bs E I Es vs Ps) : OL bs bs.length false (tot E + tot I) E I Es vs Ps := ⟨h,Nat.le_refl _,fun h => (by cases h),fun _ j h1 h2 => by omega⟩
theorem FP.done (h : FP bs E I Es vs Ps) (hw : WL bs) (hx : ∀ j,j < bs.length → Fix bs E I j ∧ ix Ps j = blkP (ix bs j) (ix E j)) : E = loE bs ∧ Es = (loE bs).map some ∧ Ps = plM bs := by
 have e : E = loE bs := h.fs.eq hw (fun j hj => (hx j hj).1)
 refine ⟨e,by rw [h.es,e],?_⟩
 refine List.ext_getElem (by rw [h.pl]; simp [plM]) fun j h1 h2 => ?_
 have h3 := (hx j (by rw [← h.pl]; exact h1)).2
 rw [ix_eq h1] at h3
 rw [h3,e]; simp [plM]
theorem FP.beg (hv : vs.length = bs.length) (hp : Ps.length = bs.length) (hE : Es = List.replicate bs.length (some [])) (hr : ∀ b,b < bs.length → (ix Ps b).length = (ix bs b).Ins.length + 1 ∧ ix (ix Ps b) 0 = some []) :
   FP bs (List.replicate bs.length []) (List.replicate bs.length []) Es vs Ps where
 fs := FS.start
 es := by rw [hE]; simp
 vl := hv
 pl := hp
 pr := fun b hb => ⟨(hr b hb).1,by rw [(hr b hb).2,ixN]⟩
theorem FP.small (h : FP bs E I Es vs Ps) (hw : WL bs) : tot E + tot I ≤ 16384 * bs.length := h.fs.small hw
end
theorem plM_len {bs : List D.MBlock} : (plM bs).length = bs.length := by simp [plM]
theorem plM_ix {bs : List D.MBlock} {b : Nat} (h : b < bs.length) : ix (plM bs) b = blkP (ix bs b) (ix (loE bs) b) := by
 rw [ix_eq (by rw [plM_len]; exact h)]; simp [plM]
theorem plM_mem {bs : List D.MBlock} (hi : ∀ b,b < bs.length → (ix bs b).Ins.length < 1000000) : ∀ l ∈ plM bs,l.length < 1073741824 := fun l hl => by
 obtain ⟨b,hb,e⟩ := List.mem_map.1 hl
 rw [← e,blkP_len]; have := hi b (by simpa using hb); omega
theorem getD_last {α : Type} {l : List α} {x d : α} {k : Nat} (h : l.length = k) : (l ++ [x]).getD k d = x := by
 subst h; simp
theorem row_more {bs : List D.MBlock} {Ps : List (List OS)} {k q : Nat} (hl : Ps.length = k) (hk : k < bs.length) (hq : q = (ix bs k).Ins.length + 1) (h : ∀ b,b < k → (ix Ps b).length = (ix bs b).Ins.length + 1 ∧ ix (ix Ps b) 0 = some []) :
   ∀ b,b < k + 1 → (ix ((Ps ++ [List.replicate q none]).set k (((Ps ++ [List.replicate q none]).getD k []).set 0 (some []))) b).length = (ix bs b).Ins.length + 1 ∧
     ix (ix ((Ps ++ [List.replicate q none]).set k (((Ps ++ [List.replicate q none]).getD k []).set 0 (some []))) b) 0 = some [] := fun b hb => by
 rw [getD_last hl,ix_set (by simp; omega)]
 split
 · rename_i e; subst e
   refine ⟨by simp [hq],?_⟩
   rw [ix_set (by simp; omega),if_pos rfl]
 · have e : ix (Ps ++ [List.replicate q none]) b = ix Ps b := by
     rw [ix_eq (by simp; omega),ix_eq (l := Ps) (by omega),List.getElem_append_left]
   rw [e]; exact h b (by omega)
abbrev U87 := @Tryz.underlying87
abbrev U88 := @Tryz.underlying88
theorem E108 : Ent Tryz.prog 108 := ⟨_,Tryz.func108,by kernel_rfl,by kernel_rfl⟩
theorem E109 : Ent Tryz.prog 109 := ⟨_,Tryz.func109,by kernel_rfl,by kernel_rfl⟩
theorem E110 : Ent Tryz.prog 110 := ⟨_,Tryz.func110,by kernel_rfl,by kernel_rfl⟩
theorem F90_0 : Fld Tryz.prog 90 0 0 := ⟨_,_,Tryz.underlying90,rfl,rfl,2,(by unfold Sz; kernel_rfl),by decide⟩
theorem F90_1 : Fld Tryz.prog 90 1 2 := ⟨_,_,Tryz.underlying90,rfl,rfl,1,(by unfold Sz; kernel_rfl),by decide⟩
theorem F90_2 : Fld Tryz.prog 90 2 3 := ⟨_,_,Tryz.underlying90,rfl,rfl,1,(by unfold Sz; kernel_rfl),by decide⟩
theorem O86 : One Tryz.prog 86 := ⟨_,Tryz.underlying86,rfl⟩
theorem O87 : One Tryz.prog 87 := ⟨_,Tryz.underlying87,rfl⟩
theorem O88 : One Tryz.prog 88 := ⟨_,Tryz.underlying88,rfl⟩
theorem Z86 : Sz Tryz.prog 86 1 := by unfold Sz; kernel_rfl
theorem Z87 : Sz Tryz.prog 87 1 := by unfold Sz; kernel_rfl
theorem row_nil {x : D.MBlock} {B : List Int} : some (sAt (x.Ins.drop x.Ins.length) B) = some B := by rw [List.drop_length]; rfl
theorem row_one {x : D.MBlock} {B : List Int} {p : Nat} (hp : 0 < p ∧ p ≤ x.Ins.length) : some (sAt (x.Ins.drop (p - 1)) B) = some (uniS (delS (sAt (x.Ins.drop p) B) (makesM (ix x.Ins (p - 1)))) (takesM (ix x.Ins (p - 1)))) := by
 rw [drop_ix (l := x.Ins) (i := p - 1) (by omega),sAt,show p - 1 + 1 = p by omega]
theorem row_beg {x : D.MBlock} {B : List Int} {R : List OS} (hl : R.length = x.Ins.length + 1) : ∀ j,x.Ins.length ≤ j → j ≤ x.Ins.length → ix (R.set x.Ins.length (some B)) j = some (sAt (x.Ins.drop j) B) := fun j h1 h2 => by
 have e : j = x.Ins.length := by omega
 subst e
 rw [ix_set (by omega),if_pos rfl,List.drop_length]; rfl
theorem row_step {x : D.MBlock} {B : List Int} {R : List OS} {p : Nat} (hl : R.length = x.Ins.length + 1) (hp : 0 < p ∧ p ≤ x.Ins.length) (h : ∀ j,p ≤ j → j ≤ x.Ins.length → ix R j = some (sAt (x.Ins.drop j) B)) :
   ∀ j,p - 1 ≤ j → j ≤ x.Ins.length → ix (R.set (p - 1) (some (uniS (delS (sAt (x.Ins.drop p) B) (makesM (ix x.Ins (p - 1)))) (takesM (ix x.Ins (p - 1)))))) j = some (sAt (x.Ins.drop j) B) := fun j h1 h2 => by
 rw [ix_set (by omega)]; split
 · rename_i e; subst e
   rw [drop_ix (l := x.Ins) (i := p - 1) (by omega),sAt,show p - 1 + 1 = p by omega]
 · exact h j (by omega) h2
set_option maxRecDepth 4000
theorem block_ct {g0 B1 B2 B3 : Nat} {bv ev pv : Value} {m : D.MFunc} {Es : List OS} {vs : List Value} {Ps : List (List OS)} {n : Nat} {z : Int} {E I : List (List Int)} (hz : z = ((n : Nat) : Int)) (hn : n < m.Blocks.length) (hw : WL m.Blocks) (hF : FP m.Blocks E I Es vs Ps) (hq : ∀ b,b < m.Blocks.length → (ix m.Blocks b).Ins.length < 1000000) : Tr Tryz.prog 68 #[.pointer (some ⟨g0,0,none⟩),.int .i64 z] [dv (rL rMBlock) bv m.Blocks] [bx g0 90 [.int .i64 m.Params,bv,ev,pv],gl B1 rSet 86 ev Es,gl B2 rV 87 pv vs,rw' B3 rSet 86 vs Ps] (fun _ : Unit => .bool (blkC m.Blocks E I n)) (fun _ => []) (fun _ _ => [bx g0 90 [.int .i64 m.Params,bv,ev,pv],gl B1 rSet 86 ev (Es.set n (some (enS m.Blocks I n))),gl B2 rV 87 pv vs,rw' B3 rSet 86 vs (Ps.set n (blkP (ix m.Blocks n) (enS m.Blocks I n)))]) := by
 refine jenter (args := [.pointer (some ⟨g0,0,none⟩),.int .i64 z]) Tryz.func68 rfl rfl rfl fun w0 X => ?_
 refine cgo k1 fun w1 => cgo k2 fun w2 => ?_
 subst hz
 have hvl := hF.vl
 have hpl := hF.pl
 have hel := hF.el
 have hPn := hF.pg hn
 have hnt := hw.t hn
 have hq0 := hq n hn
 have hl1 := hF.fs.lenE hw hn
 have hl2 := hF.fs.lenN hw hn
 refine jq (jr (ja Z (jn (jx (jq (jr (jm Z (js (jnil Z) (js (jf F90_0 Z) (js (jf F28_1 Z) (js (jl k0 O26 Z Z) ?_)))))))))))
 refine jm Z (jdq d0 fun q3 w3 => js (jix U26 Z37 d0 Z Z Z (by omega)) (jA3 sMBlock (jlA (dix d0 n (by omega)) A37 Z37 Z) fun c27a c27b c27c => jalc J37 Z fun g5 => jdq (rMBlock.cP d0) fun q5 w5 => jdq (rMBlock.cI d0) fun q6 w6 => jdq (rMBlock.cT d0) fun q7 w7 => jsta k0 Z37 Z Z Z ⟨w5.one,w6.one,Z,Z,Z,w7.one,Z,trivial⟩ (saf Z) (jn (jx (jq ?_)))))
 refine jr (jsm fun g28 => ja Z (jn (jx (jq (jq (jr (js (jf F37_2 Z) (js (jf F35_3 Z) (js (jl k1 O22 Z Z) (js (jln U22 (rMBlock.cT d0) Z) ?_))))))))))
 refine jm Z (jn (jx (jb ?_)))
 refine jlp (u2 fun (k : Nat) (Se : List Int) => ⟨k ≤ (ix m.Blocks n).End.To.length ∧ Se = ((ix m.Blocks n).End.To.take k).foldl (endOne m.Blocks I n) [],[da rMBlock (vMBlock (ix m.Blocks n) (c27a,c27b,c27c)) (ix m.Blocks n),dv (rL rMBlock) bv m.Blocks],[sm X.n g28 Se,bx g5 37 [c27a,c27b,.int .i64 (((ix m.Blocks n).End).Op),.int .i64 (((ix m.Blocks n).End).A),.int .i64 (((ix m.Blocks n).End).B),c27c,.int .i32 (((ix m.Blocks n).End).Imm)],bx g0 90 [.int .i64 m.Params,bv,ev,pv],gl B1 rSet 86 ev Es,gl B2 rV 87 pv vs,rw' B3 rSet 86 vs Ps],[(0,.pointer (some ⟨g0,0,none⟩)),(1,.int .i64 (↑n)),(4,.bool false),(5,.pointer (some ⟨g5,0,none⟩)),(6,(.map (some g28))),(31,c27c),(32,.int .i64 (↑(List.length (((ix m.Blocks n).End).To)))),(33,.int .i64 (↑k))],(ix m.Blocks n).End.To.length - k⟩) (0,[]) ⟨by dsimp only; omega,rfl⟩ (dc d0 (dc d1 dn)) (kd (kd (kd kn))) ⟨Z,Z,Z,Z,Z,Z,Z,eqI (by omega),trivial⟩ ?_
 rintro ⟨k,Se⟩; dsimp only [u2]; rintro ⟨hk,hSe⟩
 have hSr : Ris Se := by rw [hSe]; exact endF_ris (by simp [Ris])
 refine jq (jr (js (jlss Z Z) (jn (jx (jq ?_)))))
 refine jif Z (fun hc1 => ?_) (fun hc1 => ?_)
 have htk := hnt _ (ix_mem (l := (ix m.Blocks n).End.To) (i := k) (by omega))
 have ht0 := (hw.to n hn _ (ix_mem (l := (ix m.Blocks n).End.To) (i := k) (by omega))).1
 have hPk := hF.pg htk
 refine jsk (jx (jq (jb (jq (jr (js (jix U22 Z3 (rMBlock.cT d0) Z Z Z (by omega)) (js (jlI (dix (rMBlock.cT d0) k (by omega)) O3 Z) (ja Z (jn (jx (jq ?_)))))))))))
 refine jr (jm Z (js (jnil Z) (js (jf F90_2 Z) (js (jl k2 O88 Z Z) (jm Z (js (jig (i := (Int.toNat (ix (((ix m.Blocks n).End).To) k))) U88 Z87 k4 Z Z (by omega) (by omega)) (js (jgW k4 (by omega) O87 Z) (jro (Int.toNat (ix (((ix m.Blocks n).End).To) k)) k5 (by omega) (by omega) (jgo k0 fun w9 => js (jig (i := 0) U87 Z86 k0 Z Z Z (by first | omega | (simp <;> omega))) (je (q := fun v => dv rSet v (ix (List.getD Ps (Int.toNat (ix (((ix m.Blocks n).End).To) k)) []) 0)) (jgV k0 (by first | omega | (simp <;> omega)) O86 Z Z) fun v45 => ?_))))))))))
 refine jc E108 Z Z setClone_ct (dc (dcast (a := ix (List.getD Ps (Int.toNat (ix (((ix m.Blocks n).End).To) k)) []) 0) (a' := some (ix I (Int.toNat (ix (ix m.Blocks n).End.To k)))) (hF.pg htk).2.2 d0) dn) kn (fun _ => p0) (fun _ => p1) fun g46 => jrx k1 k1 (by omega) (by omega) (ja Z (jn (jx (jq (jq (jr (jm Z (js (jnil Z) (js (jf F90_0 Z) (js (jf F28_1 Z) ?_))))))))))
 refine js (jl k4 O26 Z Z) (jm Z (js (jix (i := (Int.toNat (ix (((ix m.Blocks n).End).To) k))) U26 Z37 d2 Z Z (by omega) (by omega)) (js (jf F37_0 Z) (jev (jlV (rMBlock.A_Phis (dix d2 (Int.toNat (ix (((ix m.Blocks n).End).To) k)) (by omega))) O32 Z Z) fun v55 q11 w11 => js (jln U32 d0 Z) (jm Z (jn (jx (jb ?_))))))))
 refine jlp (u2 fun (i2 : Nat) (Sa : List Int) => ⟨i2 ≤ (ix m.Blocks (Int.toNat (ix (ix m.Blocks n).End.To k))).Phis.length ∧ Sa = delS (ix I (Int.toNat (ix (ix m.Blocks n).End.To k))) (((ix m.Blocks (Int.toNat (ix (ix m.Blocks n).End.To k))).Phis.take i2).map (fun p => p.Dst)),[dv (rL rPhi) v55 ((ix m.Blocks (Int.toNat (ix (((ix m.Blocks n).End).To) k))).Phis),da rMBlock (vMBlock (ix m.Blocks n) (c27a,c27b,c27c)) (ix m.Blocks n),dv (rL rMBlock) bv m.Blocks],[rw' B3 rSet 86 vs Ps,sm X.n g46 Sa,sm X.n g28 Se,bx g5 37 [c27a,c27b,.int .i64 (((ix m.Blocks n).End).Op),.int .i64 (((ix m.Blocks n).End).A),.int .i64 (((ix m.Blocks n).End).B),c27c,.int .i32 (((ix m.Blocks n).End).Imm)],bx g0 90 [.int .i64 m.Params,bv,ev,pv],gl B1 rSet 86 ev Es,gl B2 rV 87 pv vs],[(0,.pointer (some ⟨g0,0,none⟩)),(1,.int .i64 (↑n)),(4,.bool false),(5,.pointer (some ⟨g5,0,none⟩)),(6,(.map (some g28))),(8,.int .i64 (ix (((ix m.Blocks n).End).To) k)),(9,(.map (some g46))),(31,c27c),(32,.int .i64 (↑(List.length (((ix m.Blocks n).End).To)))),(33,.int .i64 (↑k)),(55,v55),(56,.int .i64 (↑(List.length ((ix m.Blocks (Int.toNat (ix (((ix m.Blocks n).End).To) k))).Phis)))),(57,.int .i64 (↑i2))],(ix m.Blocks (Int.toNat (ix (ix m.Blocks n).End.To k))).Phis.length - i2⟩) (0,(ix I (Int.toNat (ix (ix m.Blocks n).End.To k)))) ⟨by dsimp only; omega,rfl⟩ (dc d0 (dc d2 (dc d3 dn))) (kd (kd (kd (kc k0 kn)))) ⟨Z,Z,Z,Z,Z,Z,Z,Z,Z,Z,Z,Z,eqI (by omega),trivial⟩ ?_
 rintro ⟨i2,Sa⟩; dsimp only [u2]; rintro ⟨hk2,hSa⟩
 refine jq (jr (js (jlss Z Z) (jn (jx (jq ?_)))))
 refine jif Z (fun hc2 => ?_) (fun hc2 => ?_)
 refine jsk (jx (jq (jb (jq (jr (js (jix U32 Z62 d0 Z Z Z (by omega)) (jA sPhi (jlA (dix d0 i2 (by omega)) A62 Z62 Z) fun c60 => jalc J62 Z fun g11 => jdq (rPhi.c_In d0) fun q14 w14 => jsta k0 Z62 Z Z Z ⟨Z,w14.one,trivial⟩ (saf Z) (jn ?_))))))))
 refine jx (jr (jm Z (js (jf F62_0 Z) (js (jl k0 O3 Z Z) (jlit (r := (rI .i64)) (l := [(ix ((ix m.Blocks (Int.toNat (ix (((ix m.Blocks n).End).To) k))).Phis) i2).Dst]) U22 I3 (by decide) Z Z Z (lV Z Z (wI (rPhi.W_Dst d0)) ln) fun g64 => jfz k0 (by (try simp) <;> omega) (jc E109 Z Z without_ct (dc d0 dn) (kc k2 kn) (fun _ => p0) (fun _ => p1) fun _ => jn (jbn (jx (jr ?_)))))))))
 refine js (jadd Z Z (by omega)) (jm Z (jn ?_))
 exact jag (i2 + 1,delS Sa ([(ix ((ix m.Blocks (Int.toNat (ix (((ix m.Blocks n).End).To) k))).Phis) i2).Dst])) ⟨by dsimp only; omega,by dsimp only; exact del_one (by omega) hSa⟩ (dc d2 (dc d3 (dc d4 dn))) (kc k2 (kc k0 (kc k1 (kc k1 (kc k1 (kc k1 (kc k1 kn))))))) ⟨Z,Z,Z,Z,Z,Z,Z,Z,Z,Z,Z,Z,eqI (by omega),trivial⟩
 have hA2 : Sa = delS (ix I (Int.toNat (ix (ix m.Blocks n).End.To k))) (dsts (ix m.Blocks (Int.toNat (ix (ix m.Blocks n).End.To k)))) := by rw [hSa,List.take_of_length_le (by omega)]; rfl
 refine jex (jtx (jtx (jbh (jx (jq (jq (jr (jm Z (jfs k1 (jrs U86 d0 Z fun g68 => jn ?_))))))))))
 refine jx (jb ?_)
 refine jlp (u2 fun (vis : List Int) (Su : List Int) => ⟨(vis.Nodup ∧ ∀ y ∈ vis,y ∈ Sa) ∧ Ris Su ∧ ∀ y,y ∈ Su ↔ y ∈ Se ∨ y ∈ vis,[dv rSet (.map (some g46)) (some Sa),da rMBlock (vMBlock (ix m.Blocks n) (c27a,c27b,c27c)) (ix m.Blocks n),dv (rL rMBlock) bv m.Blocks],[sit g68 (.map (some g46)) Sa vis,rw' B3 rSet 86 vs Ps,sm X.n g28 Su,bx g5 37 [c27a,c27b,.int .i64 (((ix m.Blocks n).End).Op),.int .i64 (((ix m.Blocks n).End).A),.int .i64 (((ix m.Blocks n).End).B),c27c,.int .i32 (((ix m.Blocks n).End).Imm)],bx g0 90 [.int .i64 m.Params,bv,ev,pv],gl B1 rSet 86 ev Es,gl B2 rV 87 pv vs],[(0,.pointer (some ⟨g0,0,none⟩)),(1,.int .i64 (↑n)),(4,.bool false),(5,.pointer (some ⟨g5,0,none⟩)),(6,(.map (some g28))),(8,.int .i64 (ix (((ix m.Blocks n).End).To) k)),(31,c27c),(32,.int .i64 (↑(List.length (((ix m.Blocks n).End).To)))),(33,.int .i64 (↑k)),(68,(.pointer (some ⟨g68,0,none⟩)))],Sa.length - vis.length⟩) ([],Se) ⟨⟨by simp,by simp⟩,hSr,by simp⟩ (dc d0 (dc d2 (dc d3 dn))) (kd (kd (kd (kc k0 kn)))) ⟨Z,Z,Z,Z,Z,Z,Z,Z,Z,Z,trivial⟩ ?_
 rintro ⟨vis,Su⟩; dsimp only [u2]; rintro ⟨hv,hSu1⟩
 refine jq (jr ?_)
 refine jns k0 Z (fun hd1 => ?_) (fun y1 hy1 hn1 => ?_)
 refine js (jex' Z Z) (jn (jx (jq ?_)))
 refine jif Z (fun hc3 => ?_) (fun hc3 => ?_)
 exact absurd hc3 (by simp)
 have hSu : Su = uniS Se Sa := uni_all hSr hSu1 (vis_all hv.2 hd1)
 refine jex (jtx (jtx (jbh (jx (jq (jr (jm Z (js (jnil Z) (js (jf F90_0 Z) (js (jf F28_1 Z) (js (jl k4 O26 Z Z) ?_)))))))))))
 refine jm Z (js (jix (i := (Int.toNat (ix (((ix m.Blocks n).End).To) k))) U26 Z37 d2 Z Z (by omega) (by omega)) (js (jf F37_0 Z) (jev (jlV (rMBlock.A_Phis (dix d2 (Int.toNat (ix (((ix m.Blocks n).End).To) k)) (by omega))) O32 Z Z) fun v85 q17 w17 => js (jln U32 d0 Z) (jm Z (jn (jx (jb ?_)))))))
 refine jlp (u2 fun (i4 : Nat) (S4 : List Int) => ⟨i4 ≤ (ix m.Blocks (Int.toNat (ix (ix m.Blocks n).End.To k))).Phis.length ∧ S4 = uniS Su (((ix m.Blocks (Int.toNat (ix (ix m.Blocks n).End.To k))).Phis.take i4).flatMap (fun p => (p.In.filter (fun y => decide (y.From = (n : Int)))).map (fun y => y.Val))),[dv (rL rPhi) v85 ((ix m.Blocks (Int.toNat (ix (((ix m.Blocks n).End).To) k))).Phis),da rMBlock (vMBlock (ix m.Blocks n) (c27a,c27b,c27c)) (ix m.Blocks n),dv (rL rMBlock) bv m.Blocks],[rw' B3 rSet 86 vs Ps,sm X.n g28 S4,bx g5 37 [c27a,c27b,.int .i64 (((ix m.Blocks n).End).Op),.int .i64 (((ix m.Blocks n).End).A),.int .i64 (((ix m.Blocks n).End).B),c27c,.int .i32 (((ix m.Blocks n).End).Imm)],bx g0 90 [.int .i64 m.Params,bv,ev,pv],gl B1 rSet 86 ev Es,gl B2 rV 87 pv vs],[(0,.pointer (some ⟨g0,0,none⟩)),(1,.int .i64 (↑n)),(4,.bool false),(5,.pointer (some ⟨g5,0,none⟩)),(6,(.map (some g28))),(31,c27c),(32,.int .i64 (↑(List.length (((ix m.Blocks n).End).To)))),(33,.int .i64 (↑k)),(85,v85),(86,.int .i64 (↑(List.length ((ix m.Blocks (Int.toNat (ix (((ix m.Blocks n).End).To) k))).Phis)))),(87,.int .i64 (↑i4))],(ix m.Blocks (Int.toNat (ix (ix m.Blocks n).End.To k))).Phis.length - i4⟩) (0,Su) ⟨by dsimp only; omega,rfl⟩ (dc d0 (dc d2 (dc d3 dn))) (kc k1 (kc k1 (kc k1 (kc k1 (kc k1 (kc k1 kn)))))) ⟨Z,Z,Z,Z,Z,Z,Z,Z,Z,Z,eqI (by omega),trivial⟩ ?_
 rintro ⟨i4,S4⟩; dsimp only [u2]; rintro ⟨hk4,hT4⟩
 refine jq (jr (js (jlss Z Z) (jn (jx (jq ?_)))))
 refine jif Z (fun hc4 => ?_) (fun hc4 => ?_)
 refine jsk (jx (jq (jb (jq (jr (js (jix U32 Z62 d0 Z Z Z (by omega)) (jA sPhi (jlA (dix d0 i4 (by omega)) A62 Z62 Z) fun c90 => jalc J62 Z fun g14 => jdq (rPhi.c_In d0) fun q20 w20 => jsta k0 Z62 Z Z Z ⟨Z,w20.one,trivial⟩ (saf Z) (jn ?_))))))))
 refine jx (jq (jr (js (jf F62_1 Z) (js (jl k0 O60 Z Z) (js (jln U60 (rPhi.c_In d0) Z) (jm Z (jn (jx (jb ?_)))))))))
 refine jlp (u2 fun (i5 : Nat) (S5 : List Int) => ⟨i5 ≤ (ix (ix m.Blocks (Int.toNat (ix (ix m.Blocks n).End.To k))).Phis i4).In.length ∧ S5 = uniS S4 ((((ix (ix m.Blocks (Int.toNat (ix (ix m.Blocks n).End.To k))).Phis i4).In.take i5).filter (fun y => decide (y.From = (n : Int)))).map (fun y => y.Val)),[da rPhi (vPhi (ix ((ix m.Blocks (Int.toNat (ix (((ix m.Blocks n).End).To) k))).Phis) i4) c90) (ix ((ix m.Blocks (Int.toNat (ix (((ix m.Blocks n).End).To) k))).Phis) i4),dv (rL rPhi) v85 ((ix m.Blocks (Int.toNat (ix (((ix m.Blocks n).End).To) k))).Phis),da rMBlock (vMBlock (ix m.Blocks n) (c27a,c27b,c27c)) (ix m.Blocks n),dv (rL rMBlock) bv m.Blocks],[rw' B3 rSet 86 vs Ps,sm X.n g28 S5,bx g5 37 [c27a,c27b,.int .i64 (((ix m.Blocks n).End).Op),.int .i64 (((ix m.Blocks n).End).A),.int .i64 (((ix m.Blocks n).End).B),c27c,.int .i32 (((ix m.Blocks n).End).Imm)],bx g0 90 [.int .i64 m.Params,bv,ev,pv],gl B1 rSet 86 ev Es,gl B2 rV 87 pv vs],[(0,.pointer (some ⟨g0,0,none⟩)),(1,.int .i64 (↑n)),(4,.bool false),(5,.pointer (some ⟨g5,0,none⟩)),(6,(.map (some g28))),(31,c27c),(32,.int .i64 (↑(List.length (((ix m.Blocks n).End).To)))),(33,.int .i64 (↑k)),(85,v85),(86,.int .i64 (↑(List.length ((ix m.Blocks (Int.toNat (ix (((ix m.Blocks n).End).To) k))).Phis)))),(87,.int .i64 (↑i4)),(92,c90),(93,.int .i64 (↑(List.length ((ix ((ix m.Blocks (Int.toNat (ix (((ix m.Blocks n).End).To) k))).Phis) i4).In)))),(94,.int .i64 (↑i5))],(ix (ix m.Blocks (Int.toNat (ix (ix m.Blocks n).End.To k))).Phis i4).In.length - i5⟩) (0,S4) ⟨by dsimp only; omega,rfl⟩ (dc d0 (dc d1 (dc d2 (dc d3 dn)))) (kc k1 (kc k1 (kc k1 (kc k1 (kc k1 (kc k1 kn)))))) ⟨Z,Z,Z,Z,Z,Z,Z,Z,Z,Z,Z,Z,Z,eqI (by omega),trivial⟩ ?_
 rintro ⟨i5,S5⟩; dsimp only [u2]; rintro ⟨hk5,hS5⟩
 refine jq (jr (js (jlss Z Z) (jn (jx (jq ?_)))))
 refine jif Z (fun hc5 => ?_) (fun hc5 => ?_)
 refine jsk (jx (jq (jb (jq (jr (js (jix U60 Z64 (rPhi.c_In d0) Z Z Z (by omega)) (jA sIn (jlA (dix (rPhi.c_In d0) i5 (by omega)) A64 Z64 Z) fun _ => jalc J64 Z fun g16 => jsta k0 Z64 Z Z Z ⟨Z,Z,trivial⟩ (saf Z) (jn (jx ?_)))))))))
 refine jq (jr (js (jf F64_0 Z) (js (jl k0 O3 Z Z) (jm Z (js (jeql Z Z) (jn (jx ?_)))))))
 refine jif Z (fun hc6 => ?_) (fun hc6 => ?_)
 have hcf := hc6
 refine jr (jm Z (js (jf F64_1 Z) (js (jl k0 O3 Z Z) (jlit (r := (rI .i64)) (l := [(ix ((ix ((ix m.Blocks (Int.toNat (ix (((ix m.Blocks n).End).To) k))).Phis) i4).In) i5).Val]) U22 I3 (by decide) Z Z Z (lV Z Z (wI (rIn.W_Val d0)) ln) fun g105 => jfz k0 (by (try simp) <;> omega) (jc E110 Z Z with_ct (dc d0 dn) (kc k2 kn) (fun _ => p0) (fun _ => p1) fun _ => jn (jbn (jx (jr (js (jadd Z Z (by omega)) ?_)))))))))
 refine jm Z (jn ?_)
 exact jag (i5 + 1,uniS S5 ([(ix ((ix ((ix m.Blocks (Int.toNat (ix (((ix m.Blocks n).End).To) k))).Phis) i4).In) i5).Val])) ⟨by dsimp only; omega,by dsimp only; exact en_in (by omega) hS5 hcf⟩ (dc d2 (dc d3 (dc d4 (dc d5 dn)))) (kc k2 (kc k0 (kc k1 (kc k1 (kc k1 (kc k1 kn)))))) ⟨Z,Z,Z,Z,Z,Z,Z,Z,Z,Z,Z,Z,Z,eqI (by omega),trivial⟩
 have hcf := hc6
 refine jsk (jbn (jx (jr (js (jadd Z Z (by omega)) (jm Z (jn ?_))))))
 exact jag (i5 + 1,S5) ⟨by dsimp only; omega,by dsimp only; exact en_no (by omega) hS5 hcf⟩ (dc d1 (dc d2 (dc d3 (dc d4 dn)))) (kc k1 (kc k1 (kc k1 (kc k1 (kc k1 (kc k1 kn)))))) ⟨Z,Z,Z,Z,Z,Z,Z,Z,Z,Z,Z,Z,Z,eqI (by omega),trivial⟩
 refine jex (jtx (jtx (jbh (jbn (jx (jr (js (jadd Z Z (by omega)) (jm Z (jn ?_)))))))))
 exact jag (i4 + 1,S5) ⟨by dsimp only; omega,by dsimp only; exact en_phi (bs := m.Blocks) (by omega) hT4 (by rw [hS5,List.take_of_length_le (by omega)])⟩ (dc d1 (dc d2 (dc d3 dn))) (kd (kd (kd kn))) ⟨Z,Z,Z,Z,Z,Z,Z,Z,Z,Z,eqI (by omega),trivial⟩
 refine jex (jtx (jtx (jbh (jbn (jx (jr (js (jadd Z Z (by omega)) (jm Z (jn ?_)))))))))
 exact jag (k + 1,S4) ⟨by dsimp only; omega,by dsimp only; rw [foldl_take _ _ (by omega),← hSe]; unfold endOne; rw [hT4]; unfold phiT; rw [hSu,hA2,List.take_of_length_le (by omega)]⟩ (dc d1 (dc d2 dn)) (kc k1 (kc k1 (kc k1 (kc k1 (kc k1 (kc k0 kn)))))) ⟨Z,Z,Z,Z,Z,Z,Z,eqI (by omega),trivial⟩
 have hlt1 := vis_lt hv.1 hv.2 hy1 hn1
 have wy1 := (hw.li htk (hF.fs.si _ htk _ (by rw [hA2] at hy1; exact (delS_mem.1 hy1).1)) : Rg y1).w
 refine js (jex' Z Z) (jn (jx (jq ?_)))
 refine jif Z (fun hc7 => ?_) (fun hc7 => ?_)
 refine jsk (jx (jb (jq (jr (js (jes k0 hy1 Z) (js (jex' Z Z) (ja Z (jn (jx (jr (jm Z ?_)))))))))))
 refine jm Z (jlit (r := (rI .i64)) (l := [y1]) U22 I3 (by decide) Z Z Z (lV Z Z (wI (wp wy1)) ln) fun g75 => jfz k0 (by (try simp) <;> omega) (jc E110 Z Z with_ct (dc d0 dn) (kc k2 kn) (fun _ => p0) (fun _ => p1) fun _ => jn (jbn ?_)))
 exact jag (vis ++ [y1],uniS Su ([y1])) ⟨⟨vis_nd hv.1 hn1,vis_in hv.2 hy1⟩,by dsimp only; exact uni_vis (A := []) hSu1⟩ (dc d1 (dc d2 (dc d3 dn))) (kc k1 (kc k1 (kd (kd (kc k0 kn))))) ⟨Z,Z,Z,Z,Z,Z,Z,Z,Z,Z,trivial⟩ (by dsimp only [u2]; rw [List.length_append]; simp; omega)
 exact absurd hc7 (by simp)
 have hSe9 : Se = enS m.Blocks I n := by rw [hSe,List.take_of_length_le (by omega)]; rfl
 subst hSe9
 refine jex (jtx (jtx (jbh (jx (jq (cro n k5 (by omega) (by omega) (cgo k0 fun w25 => jstl Mixed (by kernel_rfl) (jt (jmv Z) (jt (jnil Z) (jt (jf F90_1 Z) ?_))))))))))
 refine jt (jl k4 O87 Z Z) (jt (jmv Z) (jt (jig U87 Z86 k5 Z Z Z (by omega)) (jte (q := fun v => dv rSet v (ix Es n)) (jgV k5 (by omega) O86 Z Z) fun v116 => jt (jsfl U86 (dcast (a := ix Es n) (a' := some (ix E n)) (hF.ee hn) d0) Z) (jt (jmv Z) (jt (jnil Z) (jt (jf F90_2 Z) (jt (jl k4 O88 Z Z) (jt (jmv Z) (jt (jig U88 Z87 k6 Z Z Z (by omega)) (jt (jgW k6 (by omega) O87 Z) ?_))))))))))
 refine jt (jig (i := 0) U87 Z86 k0 Z Z Z (by first | omega | (simp <;> omega))) (jte (q := fun v => dv rSet v (ix (List.getD Ps n []) 0)) (jgV k0 (by first | omega | (simp <;> omega)) O86 Z Z) fun v126 => jt (jsfl U86 (dcast (a := ix (List.getD Ps n []) 0) (a' := some (ix I n)) hPn.2.2 d0) Z) (jt (jadd Z Z (by omega)) (jt (jas Z) (jdn (jx (jq (jr (jm Z (js (jnil Z) (js (jf F90_1 Z) ?_))))))))))
 refine js (jl k4 O87 Z Z) (jm Z (jm Z (js (jig U87 Z86 k5 Z Z Z (by omega)) (jfs k2 (jsg k4 Z Z86 Z Z Z (by omega) d0 (jn (jx (jq (jr (jm Z (jc E108 Z Z setClone_ct (dc d0 dn) kn (fun _ => p0) (fun _ => p1) fun g137 => ?_)))))))))))
 refine ja Z (jn (jx (jq (jr (jm Z (js (jf F37_2 Z) (js (jla k4 A35 Z35 Z Z Z) (jcd E29 Z Z pNeeds_ct (dc (rMBlock.P_End d3) dn) kn fun v141 q29 w29 => jc E110 Z Z with_ct (dc d0 dn) (kc k0 kn) (fun _ => p0) (fun _ => p1) fun _ => jn (jx ?_)))))))))
 refine jq (jany false (.a 0 (.a 1 (.a 2 (.a 3 (.a 4 (.a 5 (.a 6 (.a 7 (.a 8 (.a 9 (.a 10 (.o 11 (.o 12 .e))))))))))))) Mixed (by kernel_rfl) (kc k4 (kc k4 (kc k4 kn))) fun F31 => jy Z (jmv Z) (jy Z (jnil Z) (jy Z (jf F90_2 Z) (jy Z (jl k1 O88 Z Z) (jy Z (jmv Z) (jy Z (jig U88 Z87 k2 Z Z Z (by omega)) (jy Z (jgW k2 (by omega) O87 Z) (jy Z (jf F37_1 Z) (jy Z (jl k0 O33 Z Z) (jy Z (jln U33 (rMBlock.cI d4) Z) ?_))))))))))
 refine jy Z (jmv Z) (jyo Z (js (jig U87 Z86 k2 Z Z Z (by first | omega | (simp <;> omega))) (jyn d0 (kc k4 (kc k4 (kc k4 kn))) (jyo Z (jfs k0 (jsg k1 Z Z86 Z Z Z (by first | omega | (simp <;> omega)) d0 (jyn d1 (kc k3 (kc k3 (kc k3 kn))) (jyd (jx (jq (jq ?_)))))))))))
 refine jr (js (jf F37_1 Z) (js (jl k3 O33 Z Z) (js (jln U33 (rMBlock.cI d7) Z) (js (jsub Z Z (by omega)) (ja Z (jn (jx (jb ?_))))))))
 refine jlp (u3 fun (p : Nat) (nv : Value) (Rw : List OS) => ⟨p ≤ (ix m.Blocks n).Ins.length ∧ Rw.length = (ix m.Blocks n).Ins.length + 1 ∧ ∀ j,p ≤ j → j ≤ (ix m.Blocks n).Ins.length → ix Rw j = some (sAt ((ix m.Blocks n).Ins.drop j) (uniS (enS m.Blocks I n) (nM9 (ix m.Blocks n).End))),[dv rSet (.map (some g28)) (some (enS m.Blocks I n)),da rMBlock (vMBlock (ix m.Blocks n) (c27a,c27b,c27c)) (ix m.Blocks n),dv (rL rMBlock) bv m.Blocks,dv rSet nv (some (sAt ((ix m.Blocks n).Ins.drop p) (uniS (enS m.Blocks I n) (nM9 (ix m.Blocks n).End))))],[gl B3 rSet 86 (List.getD vs n undef) Rw,gl B1 rSet 86 ev (List.set Es n (some (enS m.Blocks I n))),hole n B3 rSet 86 vs Ps,bx g5 37 [c27a,c27b,.int .i64 (((ix m.Blocks n).End).Op),.int .i64 (((ix m.Blocks n).End).A),.int .i64 (((ix m.Blocks n).End).B),c27c,.int .i32 (((ix m.Blocks n).End).Imm)],bx g0 90 [.int .i64 m.Params,bv,ev,pv],gl B2 rV 87 pv vs],[(0,.pointer (some ⟨g0,0,none⟩)),(1,.int .i64 (↑n)),(4,.bool false),(5,.pointer (some ⟨g5,0,none⟩)),(6,(.map (some g28))),(17,.int .i64 ((↑(List.length (ix E n))) + (↑(List.length (ix I n))))),(18,nv),(19,.int .i64 ((p : Int) - 1))],p⟩) ((ix m.Blocks n).Ins.length,(.map (some g137)),List.set (List.getD Ps n []) (List.length ((ix m.Blocks n).Ins)) (some (uniS (enS m.Blocks I n) (nM9 ((ix m.Blocks n).End))))) ⟨by dsimp only; omega,by dsimp only; rw [List.length_set]; exact hPn.2.1,row_beg hPn.2.1⟩ (dc d4 (dc d7 (dc d8 (dc (dcast (a := some (uniS (enS m.Blocks I n) (nM9 ((ix m.Blocks n).End)))) (a' := some (sAt ((ix m.Blocks n).Ins.drop (ix m.Blocks n).Ins.length) (uniS (enS m.Blocks I n) (nM9 (ix m.Blocks n).End)))) (row_nil (x := ix m.Blocks n)) d0) dn)))) (kd (kd (kd kn))) ⟨Z,Z,Z,Z,Z,Z,Z,eqI (by omega),trivial⟩ ?_
 rintro ⟨p,nv,Rw⟩; dsimp only [u3]; rintro ⟨hp,hRl,hRw⟩
 refine jq (jq (jr (jm Z (js (jgeq Z Z) (jn (jx ?_))))))
 refine jif Z (fun hc8 => ?_) (fun hc8 => ?_)
 have hp1 : 0 < p ∧ p ≤ (ix m.Blocks n).Ins.length := by omega
 refine jsk (jx (jq (jb (jq (jr (jm Z (jc E108 Z Z setClone_ct (dc d3 dn) kn (fun _ => p0) (fun _ => p1) fun g164 => ja Z (jn (jx (jq ?_))))))))))
 refine jr (jm Z (js (jf F37_1 Z) (js (jl k4 O33 Z Z) (jm Z (js (jix (i := (p - 1)) U33 Z69 (rMBlock.cI d1) Z Z (by omega) (by omega)) (jA sMach (jlA (dix (rMBlock.cI d1) (p - 1) (by omega)) A69 Z69 Z) fun c170 => jcd E31 Z Z pMakes_ct (dc d0 dn) kn fun v171 q37 w37 => jc E109 Z Z without_ct (dc d0 dn) (kc k0 kn) (fun _ => p0) (fun _ => p1) fun _ => jn (jx (jq ?_))))))))
 refine jr (jm Z (js (jf F37_1 Z) (js (jl k4 O33 Z Z) (jm Z (js (jix (i := (p - 1)) U33 Z69 (rMBlock.cI d3) Z Z (by omega) (by omega)) (jA sMach (jlA (dix (rMBlock.cI d3) (p - 1) (by omega)) A69 Z69 Z) fun c178 => jcd E30 Z Z pTakes_ct (dc d0 dn) kn fun v179 q40 w40 => jc E110 Z Z with_ct (dc d0 dn) (kc k0 kn) (fun _ => p0) (fun _ => p1) fun _ => jn (jx (jr ?_))))))))
 refine jm Z (js (jnil Z) (js (jf F90_2 Z) (js (jl k5 O88 Z Z) (jm Z (js (jig U88 Z87 k6 Z Z Z (by omega)) (js (jgW k6 (by omega) O87 Z) (jm Z (jm Z (js (jig (i := (p - 1)) U87 Z86 k1 Z Z (by omega) (by omega)) (jfs k0 (jsg k0 Z Z86 Z Z Z (by omega) d0 ?_)))))))))))
 refine jn (jbn (jx (jr (jm Z (js (jsub Z Z (by omega)) (ja Z (jn ?_)))))))
 exact jag (p - 1,(.map (some g164)),List.set Rw (p - 1) (some (uniS (delS (sAt ((ix m.Blocks n).Ins.drop p) (uniS (enS m.Blocks I n) (nM9 (ix m.Blocks n).End))) (makesM (ix ((ix m.Blocks n).Ins) (p - 1)))) (takesM (ix ((ix m.Blocks n).Ins) (p - 1)))))) ⟨by dsimp only; omega,by dsimp only; rw [List.length_set]; exact hRl,row_step hRl hp1 hRw⟩ (dc d5 (dc d6 (dc d7 (dc (dcast (a := some (uniS (delS (sAt ((ix m.Blocks n).Ins.drop p) (uniS (enS m.Blocks I n) (nM9 (ix m.Blocks n).End))) (makesM (ix ((ix m.Blocks n).Ins) (p - 1)))) (takesM (ix ((ix m.Blocks n).Ins) (p - 1))))) (a' := some (sAt ((ix m.Blocks n).Ins.drop (p - 1)) (uniS (enS m.Blocks I n) (nM9 (ix m.Blocks n).End)))) (row_one hp1) d0) dn)))) (kd (kd (kd kn))) ⟨Z,Z,Z,Z,Z,Z,Z,eqI (by omega),trivial⟩
 refine jex (jtx (jtx (jbh (jx (jq (jstl Mixed (by kernel_rfl) (jt (jmv Z) (jt (jsfl U86 d0 Z) (jt (jmv Z) (jt (jnil Z) (jt (jf F90_2 Z) ?_)))))))))))
 refine jt (jl k4 O88 Z Z) (jt (jmv Z) (jt (jig U88 Z87 k5 Z Z Z (by omega)) (jt (jgW k5 (by omega) O87 Z) (jt (jig (i := 0) U87 Z86 k0 Z Z Z (by omega)) (jte (q := fun v => dv rSet v (ix Rw 0)) (jgV k0 (by omega) O86 Z Z) fun v201 => jt (jsfl U86 (dcast (a := ix Rw 0) (a' := some (begS m.Blocks n (enS m.Blocks I n))) (hRw 0 (by omega) (Nat.zero_le _)).symm d0) Z) (jt (jadd Z Z (by omega)) (jt (jmv Z) (jt (jneq Z Z) (jt (jas Z) (jdn ?_))))))))))
 refine jx (jrt (qruv k0 k1 (by omega) (by omega) ?_))
 have hRe : Rw = blkP (ix m.Blocks n) (enS m.Blocks I n) := blkP_eq hRl (fun j hj => hRw j (by omega) hj)
 subst hRe
 exact jr1 Z Z () Z dn (fun _ _ => (kc k3 (kc k1 (kc k2 (kc k0 kn)))))
end Go.Proofs.YtehhjlkmbdhckaaGreat
namespace Go.Proofs.YtehhjlkmbdhckaaGreat
open Go.JE
theorem E68 : Ent Tryz.prog 68 := ⟨_,Tryz.func68,by kernel_rfl,by kernel_rfl⟩
theorem I86 : (Tryz.prog.info? 86).map (fun i => (i.zero,i.size,i.bytes)) = some (some (.map none),1,8) := by kernel_rfl
theorem I87 : (Tryz.prog.info? 87).map (fun i => (i.zero,i.size,i.bytes)) = some (some (.slice none 0 0),1,24) := by kernel_rfl
theorem Z88 : Sz Tryz.prog 88 1 := by unfold Sz; kernel_rfl
theorem mu_dec {bs : List D.MBlock} {c c2 : Bool} {E I E2 I2 : List (List Int)} {Gs : List OS} {vs : List Value} {Rs : List (List OS)} {p : Nat} (h1 : c = true) (h : OL bs p c2 (tot E + tot I) E2 I2 Gs vs Rs) (h2 : tot E + tot I ≤ 16384 * bs.length) (h3 : tot E2 + tot I2 ≤ 16384 * bs.length) :
   (if c2 = true then 16384 * bs.length + 1 - (tot E2 + tot I2) else 0) < (if c = true then 16384 * bs.length + 1 - (tot E + tot I) else 0) := by
 rw [if_pos h1]; split
 · rename_i h4; have := h.lt h4; omega
 · omega
set_option maxRecDepth 4000
theorem of_ct {a0 : Value} {m : D.MFunc} (hr : rightM m = true) : Tr Tryz.prog 40 #[vMFunc m a0] [da rMFunc (vMFunc m a0) m] [] (fun c : Nat × Value × Value => .pointer (some ⟨c.1,0,none⟩)) (fun c => [dv (rL rSet) c.2.1 ((loE m.Blocks).map some),dv (rL (rL rSet)) c.2.2 (plM m.Blocks)]) (fun _ c => [bx c.1 90 [.int .i64 m.Params,a0,c.2.1,c.2.2]]) := by
 refine jenter (args := [vMFunc m a0]) Tryz.func40 rfl rfl rfl fun w0 X => ?_
 have hw := right_wl hr
 have hq := right_ins hr
 have hn0 := (right_wf hr).n0
 refine jq (jr (jbox Z Z fun g1 => ja Z (jn (jx (jq (jq (jr (js (jla k0 A28 Z28 Z Z Z) (jcv E34 Z Z pRight_ct (dc d0 dn) kn (js (jnot Z) ?_))))))))))
 refine jn (jx ?_)
 refine jif Z (fun hc1 => ?_) (fun hc1 => ?_)
 exact absurd hc1 (by simp [hr])
 refine jsk (jx (jq (jr (js (jla k0 A28 Z28 Z Z Z) (jdq (rMFunc.cB d0) fun q1 w1 => js (jbu (v := .agg #[.int .i64 m.Params,a0,.slice none 0 0,.slice none 0 0]) Z (fun _ => by obtain ⟨_,_,_,rfl⟩ := w1; kernel_rfl)) (jbox Z Z fun g13 => ja Z (jn (jx (jq ?_)))))))))
 refine jq (jr (js (jf F28_1 Z) (js (jl k1 O26 Z Z) (jnl (r := rSet) (E := 86) (jnl (r := rV) (E := 87) (jrn (r := rSet) (T := 86) 0 (js (jln U26 (rMFunc.cB d0) Z) (jm Z (jn (jx (jb ?_)))))))))))
 refine jlp (u6 fun (k : Nat) (ev : Value) (pv : Value) (Es : List OS) (vs : List Value) (Ps : List (List OS)) => ⟨k ≤ m.Blocks.length ∧ vs.length = k ∧ Ps.length = k ∧ Es = List.replicate k (some []) ∧ ∀ b,b < k → (ix Ps b).length = (ix m.Blocks b).Ins.length + 1 ∧ ix (ix Ps b) 0 = some [],[da rMFunc (vMFunc m a0) m],[rw' X.n rSet 86 vs Ps,gl X.n rV 87 pv vs,gl X.n rSet 86 ev Es,bx g13 90 [.int .i64 m.Params,a0,ev,pv],bx g1 28 [.int .i64 m.Params,a0]],[(1,.pointer (some ⟨g1,0,none⟩)),(2,.pointer none),(3,.pointer (some ⟨g13,0,none⟩)),(15,a0),(16,.int .i64 (↑(List.length m.Blocks))),(17,.int .i64 (↑k))],m.Blocks.length - k⟩) (0,.slice none 0 0,.slice none 0 0,[],[],[]) ⟨by dsimp only; omega,rfl,rfl,rfl,fun b hb => absurd hb (Nat.not_lt_zero b)⟩ (dc d0 dn) (kd (kd (kc k0 kn))) ⟨Z,Z,Z,Z,Z,eqI (by omega),trivial⟩ ?_
 rintro ⟨k,ev,pv,Es,vs,Ps⟩; dsimp only [u6]; rintro ⟨hk,hvk,hpk,hEk,hrk⟩
 refine cgo k2 fun w2 => cgo k1 fun w3 => ?_
 have hek : Es.length = k := by rw [hEk]; simp
 refine jq (jr (js (jlss Z Z) (jn (jx (jq ?_)))))
 refine jif Z (fun hc2 => ?_) (fun hc2 => ?_)
 have hkb : k < m.Blocks.length := by omega
 refine jsk (jx (jq (jb (jq (jr (js (jix U26 Z37 (rMFunc.cB d0) Z Z Z (by omega)) (jA3 sMBlock (jlA (dix (rMFunc.cB d0) k (by omega)) A37 Z37 Z) fun c20a c20b c20c => jalc J37 Z fun g5 => jdq (rMBlock.cP d0) fun q5 w5 => jdq (rMBlock.cI d0) fun q6 w6 => jdq (rMBlock.cT d0) fun q7 w7 => ?_)))))))
 refine jsta k0 Z37 Z Z Z ⟨w5.one,w6.one,Z,Z,Z,w7.one,Z,trivial⟩ (saf Z) (jn (jx (jq (jr (jm Z (jm Z (js (jnil Z) (js (jf F90_1 Z) (js (jl k4 O87 Z Z) (jsm fun g26 => jfs k0 ?_))))))))))
 refine japv U87 I86 (by decide) Z Z k3 Z d0 (by omega) (fun _ => Z) fun v28 _ w9 => js (jnil Z) (js (jf F90_1 Z) (jst k4 Z87 Z Z w9.one s2 (jn (jx (jq (jany true (.a 0 (.a 1 (.a 2 (.a 3 (.a 4 (.a 5 (.a 6 (.a 7 (.a 8 (.o 9 (.o 10 (.o 11 (.a 12 (.a 13 (.o 14 .e))))))))))))))) Mixed (by kernel_rfl) (kc k0 (kc k1 kn)) fun F10 => jy Z (jmv Z) (jy Z (jmv Z) (jy Z (jnil Z) (jy Z (jf F90_2 Z) ?_)))))))))
 refine jy Z (jl k0 O88 Z Z) (jy Z (jf F37_1 Z) (jy Z (jl k1 O33 Z Z) (jy Z (jln U33 (rMBlock.cI d1) Z) (jy Z (jadd Z Z (by omega)) (jyo Z (jmk (m := ((ix m.Blocks k).Ins.length + 1)) (r := rSet) U87 I86 Z Z Z (by omega) (by omega) (by omega) wSn Z fun g40 => jyn d0 (kc k1 (kc k2 kn)) (jyo Z (jlit (r := rV) (l := [(.slice (some ⟨g40,0,none⟩) ((ix m.Blocks k).Ins.length + 1) ((ix m.Blocks k).Ins.length + 1))]) U88 I87 (by decide) Z Z Z (lV Z Z (wV Z) ln) fun g41 => jyn d0 (kc k2 (kc k3 kn)) (jyo Z ?_)))))))))
 refine jfz k0 (by simp) (japl U88 I87 (by decide) Z k5 Z Z d0 (by simp <;> omega) fun v42 q15 => jrm k5 k1 (by omega) (jyn d1 (kc k2 (kc k3 kn)) (jy Z (jnil Z) (jy Z (jf F90_2 Z) (jyo Z (jst k2 Z88 Z Z q15.one s3 (jyz d0 (jyd (jx (cro k k1 (by first | omega | (simp <;> omega)) (by first | omega | (simp <;> omega)) ?_))))))))))
 refine cgo k0 fun w17 => ?_
 have hgl : 0 < (List.getD (Ps ++ [List.replicate ((ix m.Blocks k).Ins.length + 1) none]) k []).length := by rw [getD_last hpk]; simp
 have hvl : List.length (vs ++ [(.slice (some ⟨g40,0,none⟩) ((ix m.Blocks k).Ins.length + 1) ((ix m.Blocks k).Ins.length + 1))]) = k + 1 := by simp [hvk]
 refine jany false (.a 0 (.a 1 (.a 2 (.a 3 (.a 4 (.a 5 (.a 6 (.a 7 (.a 8 (.a 9 (.a 10 (.a 11 (.o 12 (.o 13 (.o 14 .e))))))))))))))) Mixed (by kernel_rfl) (kc k2 (kc k2 kn)) fun F18 => jy Z (jmv Z) (jy Z (jnil Z) (jy Z (jf F90_2 Z) (jy Z (jl k0 O88 Z Z) (jy Z (jmv Z) (jy Z (jnil Z) (jy Z (jf F90_2 Z) (jy Z (jl k0 O88 Z Z) (jy Z (jlg U88 k1 Z) (jy Z (jsub Z Z (by omega)) (jy Z (jig (i := k) U88 Z87 k1 Z Z (by omega) (by first | omega | (simp <;> omega))) ?_))))))))))
 refine jy Z (jgW k1 (by first | omega | (simp <;> omega)) O87 Z) (jyo Z (jsm fun g57 => jyn d0 (kc k3 (kc k3 kn)) (jyo Z (js (jig (i := 0) U87 Z86 k1 Z Z Z (by first | omega | (simp <;> omega))) (jyn d0 (kc k3 (kc k3 kn)) (jyo Z (jfs k0 (jsg k0 Z Z86 Z Z Z (by first | omega | (simp <;> omega)) d0 (jyn d1 (kc k2 (kc k2 kn)) (jyd ?_))))))))))
 refine jbn (jx (jr (jruv k0 k0 (by first | omega | (simp <;> omega)) (by first | omega | (simp <;> omega)) (js (jadd Z Z (by omega)) (jm Z (jn ?_))))))
 exact jag (k + 1,v28,v42,Es ++ [some ([])],vs ++ [(.slice (some ⟨g40,0,none⟩) ((ix m.Blocks k).Ins.length + 1) ((ix m.Blocks k).Ins.length + 1))],List.set (Ps ++ [List.replicate ((ix m.Blocks k).Ins.length + 1) none]) k (List.set (List.getD (Ps ++ [List.replicate ((ix m.Blocks k).Ins.length + 1) none]) k []) 0 (some ([])))) ⟨by dsimp only; omega,by simp; omega,by simp; omega,by dsimp only; rw [hEk,List.replicate_succ'],row_more hpk hkb rfl hrk⟩ (dc d11 dn) (kc k0 (kc k1 (kc k1 (kc k0 (kc k1 kn))))) ⟨Z,Z,Z,Z,Z,eqI (by omega),trivial⟩
 refine jex (jtx (jtx (jbh (jx (jq (jq (jr (ja Z (jn (jx (jb ?_)))))))))))
 have hkN : k = m.Blocks.length := by omega
 have hFP0 := FP.beg (bs := m.Blocks) (Es := Es) (vs := vs) (Ps := Ps) (hvk.trans hkN) (hpk.trans hkN) (by rw [hEk,hkN]) (fun b hb => hrk b (by omega))
 refine jlp (u5 fun (c : Bool) (E : List (List Int)) (I : List (List Int)) (Fs : List OS) (Qs : List (List OS)) => ⟨FP m.Blocks E I Fs vs Qs ∧ (c = false → ∀ j,j < m.Blocks.length → Fix m.Blocks E I j ∧ ix Qs j = blkP (ix m.Blocks j) (ix E j)),[da rMFunc (vMFunc m a0) m],[rw' X.n rSet 86 vs Qs,gl X.n rV 87 pv vs,gl X.n rSet 86 ev Fs,bx g13 90 [.int .i64 m.Params,a0,ev,pv],bx g1 28 [.int .i64 m.Params,a0]],[(1,.pointer (some ⟨g1,0,none⟩)),(2,.pointer none),(3,.pointer (some ⟨g13,0,none⟩)),(6,.bool c)],if c = true then 16384 * m.Blocks.length + 1 - (tot E + tot I) else 0⟩) (true,List.replicate m.Blocks.length [],List.replicate m.Blocks.length [],Es,Ps) ⟨hFP0,fun h => by cases h⟩ (dc d0 dn) (kd (kd (kc k0 kn))) ⟨Z,Z,Z,Z,trivial⟩ ?_
 rintro ⟨c,E,I,Fs,Qs⟩; dsimp only [u5]; rintro ⟨hF,hcF⟩
 refine jq (jq (jr (jm Z (jn (jx ?_)))))
 refine jif Z (fun hc3 => ?_) (fun hc3 => ?_)
 have hc2 : c = true := by simpa using hc3
 refine jsk (jx (jb (jq (jr (ja Z (jn (jx (jq (jr (js (jf F28_1 Z) (js (jl k4 O26 Z Z) ?_)))))))))))
 refine js (jln U26 (rMFunc.cB d0) Z) (js (jsub Z Z (by omega)) (ja Z (jn (jx (jb ?_)))))
 refine jlp (u6 fun (p : Nat) (c2 : Bool) (E2 : List (List Int)) (I2 : List (List Int)) (Gs : List OS) (Rs : List (List OS)) => ⟨p ≤ m.Blocks.length ∧ OL m.Blocks p c2 (tot E + tot I) E2 I2 Gs vs Rs,[da rMFunc (vMFunc m a0) m],[rw' X.n rSet 86 vs Rs,gl X.n rV 87 pv vs,gl X.n rSet 86 ev Gs,bx g13 90 [.int .i64 m.Params,a0,ev,pv],bx g1 28 [.int .i64 m.Params,a0]],[(1,.pointer (some ⟨g1,0,none⟩)),(2,.pointer none),(3,.pointer (some ⟨g13,0,none⟩)),(6,.bool c2),(7,.int .i64 ((p : Int) - 1))],p⟩) (m.Blocks.length,false,E,I,Fs,Qs) ⟨by dsimp only; omega,OL.beg hF⟩ (dc d0 dn) (kd (kd (kc k0 kn))) ⟨Z,Z,Z,Z,eqI (by omega),trivial⟩ ?_
 rintro ⟨p,c2,E2,I2,Gs,Rs⟩; dsimp only [u6]; rintro ⟨hp,hO⟩
 refine jq (jq (jr (jm Z (js (jgeq Z Z) (jn (jx ?_))))))
 refine jif Z (fun hc4 => ?_) (fun hc4 => ?_)
 refine jsk (jx (jq (jb (jr (jm Z (jm Z (jc E68 Z Z (block_ct (n := (p - 1)) (m := m) (by omega) (by omega) hw hO.fp hq) (dc (rMFunc.cB d0) dn) (kc k3 (kc k2 (kc k1 (kc k0 (kn))))) (fun _ => p0) (fun _ => p4) fun _ => jm Z (jg Z Z (.f _) (fun hg => jmv Z) (js (jor Z Z) (ja Z ?_))))))))))
 refine jn (jbn (jx (jr (jm Z (js (jsub Z Z (by omega)) (ja Z (jn ?_)))))))
 exact jag (p - 1,(blkC m.Blocks E2 I2 (p - 1)) || c2,E2.set (p - 1) (enS m.Blocks I2 (p - 1)),I2.set (p - 1) (begS m.Blocks (p - 1) (enS m.Blocks I2 (p - 1))),Gs.set (p - 1) (some (enS m.Blocks I2 (p - 1))),Rs.set (p - 1) (blkP (ix m.Blocks (p - 1)) (enS m.Blocks I2 (p - 1)))) ⟨by dsimp only; omega,hO.step hw (by omega) hp rfl⟩ (dc d0 dn) (kc k3 (kc k2 (kc k1 (kd kn)))) ⟨Z,Z,Z,Z,eqI (by omega),trivial⟩
 refine jex (jtx (jtx (jbh (jbn ?_))))
 exact jag (c2,E2,I2,Gs,Rs) ⟨hO.fp,fun h j hj => hO.fx h j (by omega) hj⟩ (dc d0 dn) (kd (kd (kc k0 kn))) ⟨Z,Z,Z,Z,trivial⟩ (by dsimp only [u5]; exact mu_dec hc2 hO (hF.small hw) (hO.fp.small hw))
 refine jex (jtx (jtx (jbh (jx (jq (jr ?_))))))
 obtain ⟨hE9,hF9,hQ9⟩ := hF.done hw (hcF (by simpa using hc3))
 subst hF9
 subst hQ9
 refine jfz k2 (by have := loE_len hw; simp; omega) (jfr k1 k0 (hF.vl.trans plM_len.symm) (by rw [plM_len]; omega) (plM_mem hq) (jm Z (ja Z (jn (jx (jrt ?_))))))
 exact jr1 Z Z ((g13,ev,pv) : Nat × Value × Value) Z (dc d1 (dc d0 dn)) (fun _ _ => kc k0 kn)
end Go.Proofs.YtehhjlkmbdhckaaGreat
