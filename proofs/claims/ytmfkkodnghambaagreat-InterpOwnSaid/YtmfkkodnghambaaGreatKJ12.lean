/- Lemmas that the claim is made of. Conditions: each lemma names its own. -/
import Derived.Test.YtmfkkodnghambaaGreatKJ11
import Derived.Test.YtmfkkodnghambaaGreatKJ10
import Derived.Test.YtmfkkodnghambaaGreatKJ4
set_option linter.unusedSectionVars false
set_option linter.unusedSimpArgs false
set_option linter.unusedVariables false
namespace Go.JE
variable {P : Program} {D D0 : List Dt} {L M Ls L0 : List Res} {e : Env} {X : Cx} {n : Fs} {w0 : World} {Q : Exit → Act → World → Prop}
def VmR (l : List (Int × Value)) (V : Int → Int) : Prop := ∀ k,(lkM l k).getD (.int .i32 0) = .int .i32 (V k)
def vm (g : Nat) (V : Int → Int) : Res where
 sat F H := ((∃ l,Im H g l ∧ VmR l V) ∧ ∀ k,IntKind.i32.wrap (V k) = V k) ∧ F g = none
 own k := k = g
 lt := fun ⟨⟨⟨l,h,_⟩,_⟩,_⟩ e => e ▸ h.lt
 no := fun h e => e ▸ h.2
 st := fun _ _ h1 h2 ⟨⟨⟨l,h,h3⟩,h4⟩,_⟩ => ⟨⟨⟨l,h.of (h2 g rfl),h3⟩,h4⟩,h1 g rfl⟩
def vme (g : Nat) (V : Int → Int) (k : Int) (st : Nat) : Res where
 sat F H := ((∃ l,ImS H g l k st ∧ VmR l V) ∧ ∀ k,IntKind.i32.wrap (V k) = V k) ∧ F g = none
 own k := k = g
 lt := fun ⟨⟨⟨l,h,_⟩,_⟩,_⟩ e => e ▸ h.im.lt
 no := fun h e => e ▸ h.2
 st := fun _ _ h1 h2 ⟨⟨⟨l,h,h3⟩,h4⟩,_⟩ => ⟨⟨⟨l,h.of (h2 g rfl),h3⟩,h4⟩,h1 g rfl⟩
def setV (V : Int → Int) (k v : Int) : Int → Int := fun j => if j = k then v else V j
theorem VmR.up {l : List (Int × Value)} {V : Int → Int} (h : VmR l V) (k v : Int) : VmR (upM l k (.int .i32 v)) (setV V k v) := fun j => by
 rw [upM_lk]; unfold setV
 split
 · rfl
 · exact h j
theorem VmR.ins {l : List (Int × Value)} {V : Int → Int} (h : VmR l V) (k : Int) : VmR (insM l k (.int .i32 0)) V := fun j => by
 have hj := h j
 unfold insM
 split
 · exact hj
 · rename_i hk
   have e : lkM (l ++ [(k,Value.int .i32 0)]) j = (lkM l j).or (lkM [(k,Value.int .i32 0)] j) := by
     unfold lkM; rw [List.find?_append]; cases List.find? (fun p => p.1 == j) l <;> rfl
   rw [e]
   cases h1 : lkM l j with
   | some u => rw [h1] at hj; exact hj
   | none =>
     rw [h1] at hj
     rw [← hj]
     unfold lkM
     simp only [List.find?_cons,List.find?_nil]
     cases k == j <;> rfl
theorem setV_wr {V : Int → Int} (h : ∀ k,IntKind.i32.wrap (V k) = V k) {k v : Int} (hv : IntKind.i32.wrap v = v) : ∀ j,IntKind.i32.wrap (setV V k v j) = setV V k v j := fun j => by
 unfold setV; split
 · exact hv
 · exact h j
def encW (nx : List (Int × Int)) : List (Int × Value) := nx.map (fun p => (p.1,.int .i32 p.2))
def nm (g : Nat) (nx : List (Int × Int)) : Res := im g (encW nx)
def upW : List (Int × Int) → Int → Int → List (Int × Int)
 | [],k,v => [(k,v)]
 | p :: r,k,v => if p.1 == k then (k,v) :: r else p :: upW r k v
theorem enc_up : ∀ (nx : List (Int × Int)) (k v : Int),upM (encW nx) k (.int .i32 v) = encW (upW nx k v)
 | [],k,v => rfl
 | p :: r,k,v => by
   show upM ((p.1,.int .i32 p.2) :: encW r) k (.int .i32 v) = encW (if p.1 == k then (k,v) :: r else p :: upW r k v)
   unfold upM
   split
   · rfl
   · rw [enc_up r k v]; rfl
def mit (r g : Nat) (nx : List (Int × Int)) (vis : List Int) : Res where
 sat F H := (It H r g (encW nx) vis ∧ r ≠ g) ∧ F r = none ∧ F g = none
 own k := k = r ∨ k = g
 lt := fun ⟨⟨h,_⟩,_⟩ e => by
   rcases e with e | e
   · obtain ⟨es,c,seen,_,_,h3,_⟩ := h
     rw [e]; exact (Array.getElem?_eq_some_iff.1 h3).1
   · rw [e]; exact h.im.lt
 no := fun h e => by rcases e with e | e <;> rw [e]; exact h.2.1; exact h.2.2
 st := fun _ _ h1 h2 ⟨⟨h,h3⟩,_⟩ => ⟨⟨h.of (h2 r (.inl rfl)) (h2 g (.inr rfl)),h3⟩,h1 r (.inl rfl),h1 g (.inr rfl)⟩
section
variable {ops : Array Oper} {op : Op} {d : Nat} {ty : TypeId} {pos : String} {af : Array Edge} {rest : List Oper} {T T' K E : TypeId} {x y z : Operand} {g r st : Nat} {V : Int → Int} {k v : Int} {nx : List (Int × Int)} {vis : List Int} {u : Value}
theorem jvn (kk : ∀ g,LH P n w0 ops Q X D (vm g (fun _ => 0) :: L) ((d,.map (some g)) :: e) rest) (hd : Nat.blt d n.sz = true := by rfl) : LH P n w0 ops Q X D L e (⟨some d,.makeMap T none,ty,pos,af,none⟩ :: rest) := fun F H hp =>
 LF.chg OpCh.makeMapB (by rintro _ H' ⟨g,rfl,eg,sg,kg,hb⟩; exact kk g F H' (hp.new (R := vm g (fun _ => 0)) kg ⟨⟨⟨[],hb,fun _ => rfl⟩,fun _ => by show IntKind.i32.wrap 0 = 0; decide⟩,hp.hin.nope (Nat.le_of_eq eg.symm)⟩ (fun k hk => by have : k = g := hk; omega))) hd
theorem jvk (hT : P.underlying T = some (.map K E)) (hK : P.underlying K = some (.int .i64)) (hz : (P.info? E).bind (·.zero) = some (.int .i32 0)) (hm : Tk L (vm g V) M) (hx : ev e x = some (.map (some g))) (hi : ev e z = some (.int .i64 k)) : OH P D L e (.lookup T x z false) (.int .i32 (V k)) := fun F H h1 h2 h => by
 obtain ⟨⟨⟨l,h3,h4⟩,_⟩,_⟩ := (hm.ok h).1
 rw [← h4 k]; exact OpOk.lookup hT hK hz h3 hx hi
theorem Tw.kwv {H H' : Heap} (h : Tw g H H') : Kw (vm g V).own H H' := ⟨Nat.le_of_eq h.1.symm,fun k _ h2 => h.2 k h2⟩
theorem jvu (hT : P.underlying T = some (.map K E)) (hK : P.underlying K = some (.int .i64)) (hm : Tk L (vm g V) M) (hx : ev e x = some (.map (some g))) (hi : ev e z = some (.int .i64 k)) (hy : ev e y = some (.int .i32 v)) (hw : Wr D L .i32 v)
   (kk : LH P n w0 ops Q X D (vm g (setV V k v) :: M) e rest) : LH P n w0 ops Q X D L e (⟨none,.mapUpdate T x z y,ty,pos,af,none⟩ :: rest) := fun F H hp => by
 obtain ⟨⟨⟨l,h3,h4⟩,h5⟩,h6⟩ := hp.at hm
 have h7 := hw F H hp.hin hp.hd hp.ok
 exact LF.chg0 (OpCh.mapUpdate hT hK h3 hx hi hy) (by rintro _ H' ⟨m,t⟩; exact kk F H' (hp.set (R' := vm g (setV V k v)) hm t.kwv ⟨⟨⟨_,m,h4.up k v⟩,setV_wr h5 h7⟩,h6⟩ (fun k h => .inr h)))
theorem jve (hT : P.underlying T = some (.map K E)) (hK : P.underlying K = some (.int .i64)) (hz : (P.info? E).bind (·.zero) = some (.int .i32 0)) (hm : Tk L (vm g V) M) (hx : ev e x = some (.map (some g))) (hi : ev e z = some (.int .i64 k))
   (kk : ∀ (u : Value) (st : Nat),LH P n w0 ops Q X D (vme g V k st :: M) ((d,.tuple #[u,.int .i64 st]) :: e) rest) (hd : Nat.blt d n.sz = true := by rfl) : LH P n w0 ops Q X D L e (⟨some d,.mapEntry T x z,ty,pos,af,none⟩ :: rest) := fun F H hp => by
 obtain ⟨⟨⟨l,h3,h4⟩,h5⟩,h6⟩ := hp.at hm
 exact LF.chg (OpCh.mapEntry hT hK hz h3 hx hi) (by rintro _ H' ⟨st,rfl,m,t⟩; exact kk _ st F H' (hp.set (R' := vme g V k st) hm t.kwv ⟨⟨⟨_,m,h4.ins k⟩,h5⟩,h6⟩ (fun k h => .inr h))) hd
theorem jvs (hm : Tk L (vme g V k st) M) (hx : ev e x = some (.map (some g))) (hi : ev e z = some (.int .i64 st)) (hy : ev e y = some (.int .i32 v)) (hw : Wr D L .i32 v)
   (kk : LH P n w0 ops Q X D (vm g (setV V k v) :: M) e rest) : LH P n w0 ops Q X D L e (⟨none,.entryStore T x z y,ty,pos,af,none⟩ :: rest) := fun F H hp => by
 obtain ⟨⟨⟨l,h3,h4⟩,h5⟩,h6⟩ := hp.at hm
 have h7 := hw F H hp.hin hp.hd hp.ok
 exact LF.chg0 (OpCh.entryStore h3 hx hi hy) (by rintro _ H' ⟨m,t⟩; exact kk F H' (hp.set (R' := vm g (setV V k v)) hm (t.kwv (V := V)) ⟨⟨⟨_,m,h4.up k v⟩,setV_wr h5 h7⟩,h6⟩ (fun k h => .inr h)))
theorem jvw (hm : Tk L (vm g V) M) (kk : (∀ k,IntKind.i32.wrap (V k) = V k) → LH P n w0 ops Q X D L e rest) : LH P n w0 ops Q X D L e rest := fun F H hp => kk (hp.at hm).1.2 F H hp
theorem cvw {c : Code} (hm : Tk L (vm g V) M) (kk : (∀ k,IntKind.i32.wrap (V k) = V k) → CH P n w0 Q X D L e c) : CH P n w0 Q X D L e c := fun F H hp => kk (hp.at hm).1.2 F H hp
theorem jnn (kk : ∀ g,LH P n w0 ops Q X D (nm g [] :: L) ((d,.map (some g)) :: e) rest) (hd : Nat.blt d n.sz = true := by rfl) : LH P n w0 ops Q X D L e (⟨some d,.makeMap T none,ty,pos,af,none⟩ :: rest) := jmm kk hd
theorem jnu (hT : P.underlying T = some (.map K E)) (hK : P.underlying K = some (.int .i64)) (hm : Tk L (nm g nx) M) (hx : ev e x = some (.map (some g))) (hi : ev e z = some (.int .i64 k)) (hy : ev e y = some (.int .i32 v))
   (kk : LH P n w0 ops Q X D (nm g (upW nx k v) :: M) e rest) : LH P n w0 ops Q X D L e (⟨none,.mapUpdate T x z y,ty,pos,af,none⟩ :: rest) := jup hT hK hm hx hi hy (enc_up nx k v) kk
theorem jri (hT : P.underlying T = some (.map K E)) (hm : Tk L (nm g nx) M) (hx : ev e x = some (.map (some g))) (kk : ∀ r,LH P n w0 ops Q X D (mit r g nx [] :: M) ((d,.pointer (some ⟨r,0,none⟩)) :: e) rest) (hd : Nat.blt d n.sz = true := by rfl) : LH P n w0 ops Q X D L e (⟨some d,.range T x,ty,pos,af,none⟩ :: rest) := fun F H hp => by
 obtain ⟨h3,h4⟩ := hp.at hm
 refine LF.chg (OpCh.range hT h3 hx) ?_ hd
 rintro _ H' ⟨rfl,h5,h6,h7⟩
 have hgl := h3.lt
 refine kk H.size F H' (hp.set (R' := mit H.size g nx []) hm ⟨by omega,fun k h1 _ => h7 k h1⟩ ⟨⟨h5,by omega⟩,hp.hin.nope (Nat.le_refl _),h4⟩ (fun k hk => ?_))
 rcases hk with hk | hk
 · exact .inl (by omega)
 · exact .inr hk
theorem jni (hk : Tk L (mit r g nx vis) M) (hx : ev e x = some (.pointer (some ⟨r,0,none⟩)))
   (k1 : (∀ p ∈ nx,p.1 ∈ vis) → LH P n w0 ops Q X D (mit r g nx vis :: M) ((d,.tuple #[.bool false]) :: e) rest)
   (k2 : ∀ k v,(k,v) ∈ nx → k ∉ vis → LH P n w0 ops Q X D (mit r g nx (vis ++ [k]) :: M) ((d,.tuple #[.bool true,.int .i64 k,.int .i32 v]) :: e) rest) (hd : Nat.blt d n.sz = true := by rfl) :
   LH P n w0 ops Q X D L e (⟨some d,.next x false,ty,pos,af,none⟩ :: rest) := fun F H hp => by
 obtain ⟨⟨h1,h2⟩,h3,h4⟩ := hp.at hk
 refine LF.chg (OpCh.next h2 h1 hx) ?_ hd
 rintro _ H' (⟨rfl,h5,rfl⟩ | ⟨k,w,rfl,h5,h6,h7,h8⟩)
 · refine k1 (fun p hp => h5 p.1 ?_) F H' (hp.set (R' := mit r g nx vis) hk (Kw.refl _ _) ⟨⟨h1,h2⟩,h3,h4⟩ (fun k h => .inr h))
   exact List.mem_map.2 ⟨(p.1,.int .i32 p.2),List.mem_map.2 ⟨p,hp,rfl⟩,rfl⟩
 · obtain ⟨p,h9,h10⟩ := List.mem_map.1 h5
   injection h10 with h10 h11
   subst h10; subst h11
   exact k2 p.1 p.2 h9 h6 F H' (hp.set (R' := mit r g nx (vis ++ [p.1])) hk ⟨Nat.le_of_eq h8.1.symm,fun k _ h2 => h8.2 k (fun e => h2 (.inl e))⟩ ⟨⟨h7,h2⟩,h3,h4⟩ (fun k h => .inr h))
theorem jei (hk : Tk L (mit r g nx (vis ++ [k])) M) (hi : (k,v) ∈ nx) (hx : ev e x = some (.pointer (some ⟨r,0,none⟩))) : OH P D L e (.entry x) (.tuple #[.int .i64 k,.int .i32 v]) := fun F H h1 h2 h3 => by
 obtain ⟨⟨h4,_⟩,_⟩ := (hk.ok h3).1
 exact OpOk.entry h4 (List.mem_map.2 ⟨_,hi,rfl⟩) hx
end
end Go.JE
namespace Go.Proofs.YtmfkkodnghambaaGreat
open Go.JE
def phWl (fr : Int) (V : Int → Int) (l : List D.Phi) (nx : List (Int × Int)) : List (Int × Int) := l.foldl (fun nx p => upW nx p.Dst (V (ix p.In (Int.toNat (idxM p.In (isFrom fr)))).Val)) nx
def lkW (nx : List (Int × Int)) (k : Int) : Option Int := (nx.find? (fun p => p.1 == k)).map (·.2)
def overW (nx : List (Int × Int)) (V : Int → Int) : Int → Int := fun k => (lkW nx k).getD (V k)
def phisV (fr : Int) (l : List D.Phi) (V : Int → Int) : Int → Int := overW (phWl fr V l []) V
theorem phWl_nx {fr : Int} {V : Int → Int} {l : List D.Phi} {nx : List (Int × Int)} {k : Nat} (h : k < l.length) : phWl fr V (l.take (k + 1)) nx = upW (phWl fr V (l.take k) nx) (ix l k).Dst (V (ix (ix l k).In (Int.toNat (idxM (ix l k).In (isFrom fr)))).Val) := by
 unfold phWl; rw [take_ix h,List.foldl_append]; rfl
theorem upW_keys : ∀ (nx : List (Int × Int)) (k v : Int) (j : Int),j ∈ (upW nx k v).map (·.1) ↔ j = k ∨ j ∈ nx.map (·.1)
 | [],k,v,j => by simp [upW]
 | p :: r,k,v,j => by
   unfold upW
   split
   · rename_i h
     have h : p.1 = k := by simpa using h
     simp [h]
   · have := upW_keys r k v j
     simp only [List.map_cons,List.mem_cons,this]
     exact ⟨fun h => h.elim (fun h => .inr (.inl h)) (fun h => h.elim .inl (fun h => .inr (.inr h))),fun h => h.elim (fun h => .inr (.inl h)) (fun h => h.elim .inl (fun h => .inr (.inr h)))⟩
theorem upW_nd : ∀ (nx : List (Int × Int)) (k v : Int),(nx.map (·.1)).Nodup → ((upW nx k v).map (·.1)).Nodup
 | [],k,v,_ => by simp [upW]
 | p :: r,k,v,h => by
   rw [List.map_cons,List.nodup_cons] at h
   unfold upW
   split
   · rename_i h1
     have h1 : p.1 = k := by simpa using h1
     rw [List.map_cons,List.nodup_cons]
     exact ⟨by rw [← h1]; exact h.1,h.2⟩
   · rename_i h1
     have h1 : ¬ p.1 = k := by simpa using h1
     rw [List.map_cons,List.nodup_cons]
     exact ⟨fun h2 => ((upW_keys r k v p.1).1 h2).elim h1 h.1,upW_nd r k v h.2⟩
theorem lkW_mem {nx : List (Int × Int)} (hn : (nx.map (·.1)).Nodup) {k v : Int} (h : (k,v) ∈ nx) : lkW nx k = some v := by
 induction nx with
 | nil => cases h
 | cons p r ih =>
   rw [List.map_cons,List.nodup_cons] at hn
   unfold lkW
   rw [List.find?_cons]
   rcases List.mem_cons.1 h with e | e
   · subst e; simp
   · have h1 : ¬ p.1 = k := fun e1 => hn.1 (by rw [e1]; exact List.mem_map.2 ⟨_,e,rfl⟩)
     rw [show (p.1 == k) = false by simpa using h1]
     exact ih hn.2 e
theorem lkW_no {nx : List (Int × Int)} {k : Int} (h : k ∉ nx.map (·.1)) : lkW nx k = none := by
 unfold lkW
 rw [Option.map_eq_none_iff,List.find?_eq_none]
 intro p hp e
 exact h (List.mem_map.2 ⟨p,hp,by simpa using e⟩)
theorem phWl_nd {fr : Int} {V : Int → Int} : ∀ (l : List D.Phi) (nx : List (Int × Int)),(nx.map (·.1)).Nodup → ((phWl fr V l nx).map (·.1)).Nodup
 | [],nx,h => h
 | p :: l,nx,h => phWl_nd l _ (upW_nd _ _ _ h)
def partW (nx : List (Int × Int)) (vis : List Int) (V : Int → Int) : Int → Int := fun k => if k ∈ vis then (lkW nx k).getD (V k) else V k
theorem partW_nx {nx : List (Int × Int)} {vis : List Int} {V : Int → Int} {k v : Int} (hn : (nx.map (·.1)).Nodup) (h : (k,v) ∈ nx) : setV (partW nx vis V) k v = partW nx (vis ++ [k]) V := by
 funext j
 unfold setV partW
 by_cases e : j = k
 · subst e
   rw [if_pos rfl,if_pos (by simp),lkW_mem hn h]; rfl
 · rw [if_neg e]
   by_cases h2 : j ∈ vis
   · rw [if_pos h2,if_pos (by simp [h2])]
   · rw [if_neg h2,if_neg (by simp [h2,e])]
theorem partW_all {nx : List (Int × Int)} {vis : List Int} {V : Int → Int} (h : ∀ p ∈ nx,p.1 ∈ vis) : partW nx vis V = overW nx V := by
 funext j
 unfold partW overW
 split
 · rfl
 · rename_i h1
   rw [lkW_no (fun h2 => by obtain ⟨p,h3,h4⟩ := List.mem_map.1 h2; exact h1 (by rw [← h4]; exact h p h3))]; rfl
theorem visW_lt {nx : List (Int × Int)} {vis : List Int} {k v : Int} (hn : vis.Nodup) (hs : ∀ y ∈ vis,y ∈ nx.map (·.1)) (h : (k,v) ∈ nx) (hk : k ∉ vis) : vis.length < nx.length := by
 have h1 : (vis ++ [k]).Nodup := List.nodup_append.2 ⟨hn,by simp,fun x hx y hy e => by simp at hy; subst hy; subst e; exact hk hx⟩
 have h2 := sub_len (vis ++ [k]) (nx.map (·.1)) h1 (fun y hy => by
   rcases List.mem_append.1 hy with h3 | h3
   · exact hs y h3
   · simp at h3; subst h3; exact List.mem_map.2 ⟨_,h,rfl⟩)
 rw [List.length_append,List.length_map] at h2
 simp at h2; omega
theorem encW_wr {nx : List (Int × Int)} {fr : Int} {V : Int → Int} (hV : ∀ k,IntKind.i32.wrap (V k) = V k) : ∀ (l : List D.Phi) (nx : List (Int × Int)),(∀ p ∈ nx,IntKind.i32.wrap p.2 = p.2) → ∀ p ∈ phWl fr V l nx,IntKind.i32.wrap p.2 = p.2
 | [],nx,h => h
 | q :: l,nx,h => encW_wr (nx := nx) hV l _ (fun p hp => by
   have : ∀ (nx : List (Int × Int)) (k v : Int),IntKind.i32.wrap v = v → (∀ p ∈ nx,IntKind.i32.wrap p.2 = p.2) → ∀ p ∈ upW nx k v,IntKind.i32.wrap p.2 = p.2 := by
     intro nx k v hv
     induction nx with
     | nil => intro _ p hp; simp [upW] at hp; subst hp; exact hv
     | cons a r ih =>
       intro h p hp
       unfold upW at hp
       split at hp
       · rcases List.mem_cons.1 hp with e | e
         · subst e; exact hv
         · exact h p (by simp [e])
       · rcases List.mem_cons.1 hp with e | e
         · subst e; exact h _ (by simp)
         · exact ih (fun p hp => h p (by simp [hp])) p e
   exact this nx _ _ (hV _) h p hp)
def wT (t : D.Term) (V : Int → Int) : List Int := t.Args.map V ++ [0]
def termB (t : D.Term) (V : Int → Int) : Int :=
 if t.Kind = 1 then ix t.To 0
 else if t.Kind = 2 then (if ix (wT t V) 0 = 0 then ix t.To 1 else ix t.To 0)
 else if t.Kind = 3 then ix t.To (Int.toNat (min (IntKind.u32.wrap (ix (wT t V) 0)) ((t.To.length : Int) - 1)))
 else 0
def termE (t : D.Term) (en : Int) : Int := if t.Kind = 1 ∨ t.Kind = 2 ∨ t.Kind = 3 then en else if t.Kind = 4 then 1 else 2
def termV (t : D.Term) (V : Int → Int) (va : Int) : Int := if t.Kind = 1 ∨ t.Kind = 2 ∨ t.Kind = 3 then va else if t.Kind = 4 then ix (wT t V) 0 else t.Imm
def aI (i : D.Ins) (V : Int → Int) (k : Nat) : Int := ix (i.Args.map V) k
def inzV (i : D.Ins) (V : Int → Int) (me an : List Int) : Int → Int :=
 if i.Op = 1 then setV V i.Dst i.Imm
 else if i.Op = 15 then setV V i.Dst (loadM me (w32 (aI i V 0 + i.Imm))).1
 else if i.Op = 16 then V
 else if i.Op = 17 then (if 0 < an.length then setV (setV V i.Dst 0) i.Dst (ix an 0) else setV V i.Dst 0)
 else if i.Op = 18 then setV (setV V i.Dst (wideM (aI i V 0) (aI i V 1)).1) i.Two (wideM (aI i V 0) (aI i V 1)).2
 else setV V i.Dst (doM i.Op (aI i V 0) (aI i V 1)).1
def inzT (i : D.Ins) (V : Int → Int) (me : List Int) : Int := if i.Op = 15 then (if (loadM me (w32 (aI i V 0 + i.Imm))).2 = true then 0 else -2) else if i.Op = 16 then (if storeOk me (w32 (aI i V 0 + i.Imm)) (aI i V 1) = true then 0 else -2) else if i.Op = 1 ∨ i.Op = 17 ∨ i.Op = 18 then 0 else if (doM i.Op (aI i V 0) (aI i V 1)).2 = true then 0 else -1
def inzE (i : D.Ins) (V : Int → Int) (me : List Int) (en : Int) : Int := if inzT i V me = 0 then en else 2
def inzX (i : D.Ins) (V : Int → Int) (me : List Int) (va : Int) : Int := if inzT i V me = 0 then va else inzT i V me
def inzM (i : D.Ins) (V : Int → Int) (me : List Int) : List Int := if i.Op = 16 then storeM me (w32 (aI i V 0 + i.Imm)) (aI i V 1) else me
def inzC (i : D.Ins) (V : Int → Int) (cl : List D.Event) : List D.Event := if i.Op = 17 then cl ++ [⟨i.Imm,i.Args.map V⟩] else cl
def inzA (i : D.Ins) (an : List Int) : List Int := if i.Op = 17 then an.drop 1 else an
theorem shM_facts {t : D.Term} (h : ∃ s,shM t.Kind = some s ∧ (s.1 ≤ (t.Args.length : Int) ∧ (t.Args.length : Int) ≤ s.2.1) ∧ (s.2.2.1 ≤ (t.To.length : Int) ∧ (t.To.length : Int) ≤ s.2.2.2)) :
   (1 ≤ t.Kind ∧ t.Kind ≤ 5) ∧ (t.Kind = 1 → t.To.length = 1 ∧ t.Args.length = 0) ∧ (t.Kind = 2 → t.To.length = 2 ∧ t.Args.length = 1) ∧ (t.Kind = 3 → (2 ≤ t.To.length ∧ t.To.length ≤ 65) ∧ t.Args.length = 1) ∧ t.Args.length ≤ 1 := by
 obtain ⟨s,h1,h2,h3⟩ := h
 unfold shM at h1
 repeat' split at h1
 all_goals first
   | (injection h1 with h1; subst h1; simp only at h2 h3; refine ⟨by omega,?_,?_,?_,by omega⟩ <;> intro <;> omega)
   | cases h1
theorem u32_nn (n : Int) : 0 ≤ IntKind.u32.wrap n := by rw [IntKind.wrap_u32]; omega
theorem idx_from {l : List D.In} {fr : Int} (h : fr ∈ l.map (fun x => x.From)) : 0 ≤ idxM l (isFrom fr) ∧ idxM l (isFrom fr) < l.length := by
 refine ⟨?_,idx_lt l (isFrom fr)⟩
 unfold idxM
 cases h1 : l.findIdx? (isFrom fr) with
 | some i => exact Int.natCast_nonneg i
 | none =>
   rw [List.findIdx?_eq_none_iff] at h1
   obtain ⟨x,h2,h3⟩ := List.mem_map.1 h
   have := h1 x h2
   unfold isFrom at this
   simp at this
   exact absurd h3 this
theorem vis_nd9 {vis : List Int} {k : Int} (h : vis.Nodup) (hk : k ∉ vis) : (vis ++ [k]).Nodup := List.nodup_append.2 ⟨h,by simp,fun x hx y hy e => by simp at hy; subst hy; subst e; exact hk hx⟩
theorem oper_facts {i : D.Ins} (h : (1 ≤ i.Op ∧ i.Op ≤ 18) ∧ (operM i.Op).1 ≤ (i.Args.length : Int) ∧ (i.Args.length : Int) ≤ (operM i.Op).2) :
   (i.Op = 15 → i.Args.length = 1) ∧ (i.Op ≠ 1 → i.Op ≠ 15 → i.Op ≠ 17 → i.Args.length = 2) ∧ i.Args.length ≤ 4 := by
 obtain ⟨h1,h2,h3⟩ := h
 by_cases e1 : i.Op = 1
 · have e : operM i.Op = (0,0) := by unfold operM; rw [if_pos e1]
   rw [e] at h2 h3; simp only at h2 h3
   exact ⟨fun h => by omega,fun h => absurd e1 h,by omega⟩
 by_cases e2 : i.Op = 15
 · have e : operM i.Op = (1,1) := by unfold operM; rw [if_neg e1,if_pos e2]
   rw [e] at h2 h3; simp only at h2 h3
   exact ⟨fun h => by omega,fun _ h => absurd e2 h,by omega⟩
 by_cases e3 : i.Op = 17
 · have e : operM i.Op = (0,4) := by unfold operM; rw [if_neg e1,if_neg e2,if_pos e3]
   rw [e] at h2 h3; simp only at h2 h3
   exact ⟨fun h => by omega,fun _ _ h => absurd e3 h,by omega⟩
 have e : operM i.Op = (2,2) := by unfold operM; rw [if_neg e1,if_neg e2,if_neg e3]
 rw [e] at h2 h3; simp only at h2 h3
 exact ⟨fun h => absurd h e2,fun _ _ _ => by omega,by omega⟩
def stE (en st ss : Int) : Int := if en = 0 ∧ ss ≤ st then 3 else en
def stV (en va st ss : Int) : Int := if en = 0 ∧ ss ≤ st then 0 else va
def stB (en st ss : Int) : Bool := decide (stE en st ss = 0)
def stS (en st ss : Int) : Int := if stE en st ss = 0 then st + 1 else st
theorem stB_t {en st ss : Int} (h : stB en st ss = true) : en = 0 ∧ st < ss ∧ stE en st ss = 0 ∧ stS en st ss = st + 1 := by
 have h1 : stE en st ss = 0 := by simpa [stB] using h
 unfold stE at h1
 split at h1
 · omega
 · refine ⟨h1,by omega,?_,?_⟩
   · unfold stE; rw [if_neg (by assumption)]; exact h1
   · have e : stE en st ss = 0 := by unfold stE; rw [if_neg (by assumption)]; exact h1
     unfold stS; rw [if_pos e]
theorem stB_f {en st ss : Int} (h : stB en st ss = false) : stE en st ss ≠ 0 ∧ stS en st ss = st := by
 have h1 : stE en st ss ≠ 0 := by simpa [stB] using h
 exact ⟨h1,by unfold stS; rw [if_neg h1]⟩
structure RSt where
 V : Int → Int
 en : Int
 va : Int
 me : List Int
 cl : List D.Event
 st : Int
 an : List Int
def stepF (N : Int) (s : RSt) : RSt := { s with en := stE s.en s.st N,va := stV s.en s.va s.st N,st := stS s.en s.st N }
def stepOk (N : Int) (s : RSt) : Bool := stB s.en s.st N
def insF (i : D.Ins) (s : RSt) : RSt := ⟨inzV i s.V s.me s.an,inzE i s.V s.me s.en,inzX i s.V s.me s.va,inzM i s.V s.me,inzC i s.V s.cl,s.st,inzA i s.an⟩
def lisF (N : Int) : List D.Ins → RSt → RSt × Bool
 | [],s => (s,true)
 | i :: l,s => if stepOk N s = true then lisF N l (insF i (stepF N s)) else (stepF N s,false)
def termF (t : D.Term) (s : RSt) : RSt := { s with en := termE t s.en,va := termV t s.V s.va }
def phisF (fr : Int) (l : List D.Phi) (s : RSt) : RSt := { s with V := phisV fr l s.V }
def blocksF (bs : List D.Block) (N : Int) : Nat → Int → Int → RSt → RSt
 | 0,_,_,s => s
 | k + 1,a,fr,s =>
   if (lisF N (ix bs (Int.toNat a)).Ins (phisF fr (ix bs (Int.toNat a)).Phis s)).2 = true then
     (if stepOk N (lisF N (ix bs (Int.toNat a)).Ins (phisF fr (ix bs (Int.toNat a)).Phis s)).1 = true then
       (if (termF (ix bs (Int.toNat a)).Term (stepF N (lisF N (ix bs (Int.toNat a)).Ins (phisF fr (ix bs (Int.toNat a)).Phis s)).1)).en = 0 then
         blocksF bs N k (termB (ix bs (Int.toNat a)).Term (lisF N (ix bs (Int.toNat a)).Ins (phisF fr (ix bs (Int.toNat a)).Phis s)).1.V) a (termF (ix bs (Int.toNat a)).Term (stepF N (lisF N (ix bs (Int.toNat a)).Ins (phisF fr (ix bs (Int.toNat a)).Phis s)).1))
       else termF (ix bs (Int.toNat a)).Term (stepF N (lisF N (ix bs (Int.toNat a)).Ins (phisF fr (ix bs (Int.toNat a)).Phis s)).1))
     else stepF N (lisF N (ix bs (Int.toNat a)).Ins (phisF fr (ix bs (Int.toNat a)).Phis s)).1)
   else (lisF N (ix bs (Int.toNat a)).Ins (phisF fr (ix bs (Int.toNat a)).Phis s)).1
def outF (s : RSt) : D.Outcome := ⟨s.en,s.va,s.me,s.cl,s.st⟩
def argsV (l : List Int) : Nat → Int → Int
 | 0 => fun _ => 0
 | k + 1 => setV (argsV l k) k (ix l k)
def argsF (f : D.Func) (i : D.Input) : List Int := i.Args.take (Int.toNat (min (i.Args.length : Int) f.Params))
def startF (f : D.Func) (i : D.Input) : RSt := ⟨argsV (argsF f i) (argsF f i).length,0,0,memM i,[],0,i.Answers⟩
def runF (f : D.Func) (i : D.Input) : D.Outcome := outF (blocksF f.Blocks i.Steps (Int.toNat i.Steps + 1) 0 (-1) (startF f i))
section
variable {bs : List D.Block} {N a fr : Int} {k : Nat} {s s' : RSt}
theorem blk_stop (h : lisF N (ix bs (Int.toNat a)).Ins (phisF fr (ix bs (Int.toNat a)).Phis s) = (s',false)) (hk : 0 < k) : blocksF bs N k a fr s = s' := by
 obtain ⟨j,rfl⟩ : ∃ j,k = j + 1 := ⟨k - 1,by omega⟩
 rw [blocksF,h]; simp
theorem blk_step (h : lisF N (ix bs (Int.toNat a)).Ins (phisF fr (ix bs (Int.toNat a)).Phis s) = (s',true)) (h2 : stepOk N s' = false) (hk : 0 < k) : blocksF bs N k a fr s = stepF N s' := by
 obtain ⟨j,rfl⟩ : ∃ j,k = j + 1 := ⟨k - 1,by omega⟩
 rw [blocksF,h]; simp [h2]
theorem blk_end (h : lisF N (ix bs (Int.toNat a)).Ins (phisF fr (ix bs (Int.toNat a)).Phis s) = (s',true)) (h2 : stepOk N s' = true) (h3 : ¬ (termF (ix bs (Int.toNat a)).Term (stepF N s')).en = 0) (hk : 0 < k) : blocksF bs N k a fr s = termF (ix bs (Int.toNat a)).Term (stepF N s') := by
 obtain ⟨j,rfl⟩ : ∃ j,k = j + 1 := ⟨k - 1,by omega⟩
 rw [blocksF,h]; simp [h2,h3]
theorem blk_go (h : lisF N (ix bs (Int.toNat a)).Ins (phisF fr (ix bs (Int.toNat a)).Phis s) = (s',true)) (h2 : stepOk N s' = true) (h3 : (termF (ix bs (Int.toNat a)).Term (stepF N s')).en = 0) (hk : 0 < k) : blocksF bs N k a fr s = blocksF bs N (k - 1) (termB (ix bs (Int.toNat a)).Term s'.V) a (termF (ix bs (Int.toNat a)).Term (stepF N s')) := by
 obtain ⟨j,rfl⟩ : ∃ j,k = j + 1 := ⟨k - 1,by omega⟩
 rw [blocksF,h]; simp [h2,h3]
theorem lis_go {l : List D.Ins} {j : Nat} {R : RSt × Bool} (h : R = lisF N (l.drop j) s) (hj : j < l.length) (h2 : stepOk N s = true) : R = lisF N (l.drop (j + 1)) (insF (ix l j) (stepF N s)) := by
 rw [h,drop_ix hj,lisF,if_pos h2]
theorem lis_stop {l : List D.Ins} {j : Nat} {R : RSt × Bool} (h : R = lisF N (l.drop j) s) (hj : j < l.length) (h2 : stepOk N s = false) : R = (stepF N s,false) := by
 rw [h,drop_ix hj,lisF,if_neg (by rw [h2]; decide)]
theorem lis_end {l : List D.Ins} {j : Nat} {R : RSt × Bool} (h : R = lisF N (l.drop j) s) (hj : l.length ≤ j) : R = (s,true) := by rw [h,List.drop_of_length_le hj,lisF]
end
theorem term_to {t : D.Term} {V : Int → Int} (h : ∃ s,shM t.Kind = some s ∧ (s.1 ≤ (t.Args.length : Int) ∧ (t.Args.length : Int) ≤ s.2.1) ∧ (s.2.2.1 ≤ (t.To.length : Int) ∧ (t.To.length : Int) ≤ s.2.2.2)) {en : Int} (he : termE t en = 0) : termB t V ∈ t.To := by
 obtain ⟨h0,h1,h2,h3,h4⟩ := shM_facts h
 unfold termE at he
 split at he
 · rename_i hk
   unfold termB
   rcases hk with hk | hk | hk
   · have := (h1 hk).1
     rw [if_pos hk]; exact ix_mem (by omega)
   · have := (h2 hk).1
     rw [if_neg (by omega),if_pos hk]
     split
     · exact ix_mem (by omega)
     · exact ix_mem (by omega)
   · have := (h3 hk).1
     have hu := u32_nn (ix (wT t V) 0)
     rw [if_neg (by omega),if_neg (by omega),if_pos hk]
     exact ix_mem (by omega)
 · split at he <;> omega
theorem GoodF.phi_from {f : D.Func} (hG : GoodF f) {b : Nat} (hb : b < f.Blocks.length) {t : Int} (ht : t ∈ (ix f.Blocks b).Term.To) : ∀ p ∈ (ix f.Blocks (Int.toNat t)).Phis,(b : Int) ∈ p.In.map (fun x => x.From) := fun p hp => by
 have h1 := hG.to b hb t ht
 have h2 := hG.fr (Int.toNat t) (by omega) p hp
 rw [h2.2,preds_pr]
 unfold prG
 have hc : ix (cleanM (graphF f)) b = keptM (ix f.Blocks b).Term.To f.Blocks.length := by
   unfold cleanM; rw [ix_mapG (by rw [graph_len]; exact hb),graph_len]
   unfold graphF; rw [ix_mapG hb,kept_kept]
 rw [hc,kept_mem]
 exact ⟨by rw [Int.toNat_of_nonneg (by omega)]; exact ht,by omega⟩
theorem GoodF.phi0 {f : D.Func} (hG : GoodF f) {fr : Int} : ∀ p ∈ (ix f.Blocks (Int.toNat 0)).Phis,fr ∈ p.In.map (fun x => x.From) := fun p hp => by
 have := (hG.fr 0 hG.len.1 p hp).1
 omega
theorem inzM_len (i : D.Ins) (V : Int → Int) (me : List Int) : (inzM i V me).length = me.length := by
 unfold inzM; split
 · exact storeM_len _ _ _
 · rfl
theorem inzC_len (i : D.Ins) (V : Int → Int) (cl : List D.Event) : (inzC i V cl).length ≤ cl.length + 1 := by
 unfold inzC; split
 · simp
 · omega
theorem stE_rng {en st ss : Int} (h : 0 ≤ en ∧ en ≤ 3) : 0 ≤ stE en st ss ∧ stE en st ss ≤ 3 := by unfold stE; split <;> omega
theorem stV_wr {en va st ss : Int} (h : IntKind.i32.wrap va = va) : IntKind.i32.wrap (stV en va st ss) = stV en va st ss := by unfold stV; split; decide; exact h
theorem termE_rng {t : D.Term} {en : Int} (h : 0 ≤ en ∧ en ≤ 3) : 0 ≤ termE t en ∧ termE t en ≤ 3 := by unfold termE; split; exact h; split <;> omega
theorem inzE_rng {i : D.Ins} {V : Int → Int} {me : List Int} {en : Int} (h : 0 ≤ en ∧ en ≤ 3) : 0 ≤ inzE i V me en ∧ inzE i V me en ≤ 3 := by unfold inzE; split; exact h; omega
theorem inzX_wr {i : D.Ins} {V : Int → Int} {me : List Int} {va : Int} (h : IntKind.i32.wrap va = va) : IntKind.i32.wrap (inzX i V me va) = inzX i V me va := by
 unfold inzX; split
 · exact h
 · unfold inzT
   repeat' split
   all_goals decide
theorem wT_wr {t : D.Term} {V : Int → Int} (hV : ∀ k,IntKind.i32.wrap (V k) = V k) : IntKind.i32.wrap (ix (wT t V) 0) = ix (wT t V) 0 := by
 unfold wT
 cases h : t.Args with
 | nil => rfl
 | cons a l => rw [List.map_cons,List.cons_append,ix_zero]; exact hV a
theorem termV_wr {t : D.Term} {V : Int → Int} {va : Int} (h : IntKind.i32.wrap va = va) (hV : ∀ k,IntKind.i32.wrap (V k) = V k) (hi : IntKind.i32.wrap t.Imm = t.Imm) : IntKind.i32.wrap (termV t V va) = termV t V va := by
 unfold termV; split
 · exact h
 · split
   · exact wT_wr hV
   · exact hi
theorem lis_go2 {N : Int} {l : List D.Ins} {j : Nat} {R : RSt × Bool} {V : Int → Int} {en va st : Int} {me an : List Int} {cl : List D.Event} (h : R = lisF N (l.drop j) ⟨V,en,va,me,cl,st,an⟩) (hj : j < l.length) (h2 : stepOk N ⟨V,en,va,me,cl,st,an⟩ = true) :
   R = lisF N (l.drop (j + 1)) ⟨inzV (ix l j) V me an,inzE (ix l j) V me (stE en st N),inzX (ix l j) V me (stV en va st N),inzM (ix l j) V me,inzC (ix l j) V cl,stS en st N,inzA (ix l j) an⟩ := by
 have h3 := lis_go h hj h2
 have e : insF (ix l j) (stepF N ⟨V,en,va,me,cl,st,an⟩) = ⟨inzV (ix l j) V me an,inzE (ix l j) V me (stE en st N),inzX (ix l j) V me (stV en va st N),inzM (ix l j) V me,inzC (ix l j) V cl,stS en st N,inzA (ix l j) an⟩ := rfl
 rw [e] at h3; exact h3
theorem E101 : Ent Tryz.prog 101 := ⟨_,Tryz.func101,by kernel_rfl,by kernel_rfl⟩
theorem F115_1 : Fld Tryz.prog 115 1 1 := ⟨_,_,Tryz.underlying115,rfl,rfl,5,(by unfold Sz; kernel_rfl),by decide⟩
theorem F115_3 : Fld Tryz.prog 115 3 7 := ⟨_,_,Tryz.underlying115,rfl,rfl,1,(by unfold Sz; kernel_rfl),by decide⟩
set_option maxRecDepth 4000
theorem rEnd_ct {g0 : Nat} {v0 m0 c0 a0 : Value} {e0 x0 st0 ss0 : Int} (kd : Int) (x : Int) (ov : v0.oneCell' = true) (om : m0.oneCell' = true) (oc : c0.oneCell' = true) (oa : a0.oneCell' = true) : Tr Tryz.prog 101 #[.pointer (some ⟨g0,0,none⟩),.int .i64 kd,.int .i32 x] [] [bx g0 115 [v0,.int .i64 e0,.int .i32 x0,m0,c0,.int .i64 st0,a0,.int .i64 ss0]] (fun _ : Unit => .tuple #[]) (fun _ => []) (fun _ _ => [bx g0 115 [v0,.int .i64 kd,.int .i32 x,m0,c0,.int .i64 st0,a0,.int .i64 ss0]]) := by
 refine jenter (args := [.pointer (some ⟨g0,0,none⟩),.int .i64 kd,.int .i32 x]) Tryz.func101 rfl rfl rfl fun w0 X => ?_
 refine jr (jm Z (jm Z (jm Z (jm Z (js (jnil Z) (js (jf F115_1 Z) (js (jf F37_0 Z) (jst k0 Z3 Z Z Z s1 (js (jnil Z) (js (jf F115_1 Z) (js (jf F37_1 Z) ?_)))))))))))
 refine jst k0 Z21 Z Z Z s2 (jn ?_)
 exact jd0 Z () Z dn (fun _ _ => (kc k0 kn))
theorem rStep_ct {g0 : Nat} {v0 m0 c0 a0 : Value} {e0 x0 st0 ss0 : Int} (ov : v0.oneCell' = true) (om : m0.oneCell' = true) (oc : c0.oneCell' = true) (oa : a0.oneCell' = true) (hs9 : 0 ≤ st0 ∧ st0 ≤ 1000000000) : Tr Tryz.prog 49 #[.pointer (some ⟨g0,0,none⟩)] [] [bx g0 115 [v0,.int .i64 e0,.int .i32 x0,m0,c0,.int .i64 st0,a0,.int .i64 ss0]] (fun _ : Unit => .bool (stB e0 st0 ss0)) (fun _ => []) (fun _ _ => [bx g0 115 [v0,.int .i64 (stE e0 st0 ss0),.int .i32 (stV e0 x0 st0 ss0),m0,c0,.int .i64 (stS e0 st0 ss0),a0,.int .i64 ss0]]) := by
 refine jenter (args := [.pointer (some ⟨g0,0,none⟩)]) Tryz.func49 rfl rfl rfl fun w0 X => ?_
 refine jq (jr (ja Z (jn (jx (jq (jq (jstl Mixed (by kernel_rfl) (jt (jmv Z) (jt (jnil Z) (jt (jf F115_1 Z) (jt (jf F37_0 Z) ?_)))))))))))
 refine jt (jl k0 O3 Z Z) (jt (jeql Z Z) (jt (jmv Z) (jtg Z Z (.t _) (fun hg => jmv Z) (jtg Z Z (.t _) (fun hg => jnil (evg Z hg)) (jtg Z Z (.t _) (fun hg => jf F115_1 (evg Z hg)) (jtg Z Z (.t _) (fun hg => jf F37_4 (evg Z hg)) (jtg Z Z (.t _) (fun hg => jl k0 O3 (evg Z hg) Z) (jtg Z Z (.t _) (fun hg => jmv Z) (jtg Z Z (.t _) (fun hg => jnil (evg Z hg)) (jtg Z Z (.t _) (fun hg => jf F115_3 (evg Z hg)) (jtg Z Z (.t _) (fun hg => jl k0 O3 (evg Z hg) Z) ?_)))))))))))
 refine jtg Z Z (.t _) (fun hg => jgeq (evg Z hg) (evg Z hg)) (jt (jand Z Z) (jdn (jx ?_)))
 refine jif Z (fun hc1 => ?_) (fun hc1 => ?_)
 refine jr (jm Z (jc E101 Z Z (rEnd_ct _ _ ov om oc oa) dn (kc k0 kn) (fun _ => p0) (fun _ => p1) fun _ => jn (jx (jq (jq (jr (jm Z (js (jnil Z) (js (jf F115_1 Z) (js (jf F37_0 Z) ?_))))))))))
 refine js (jl k0 O3 Z Z) (js (jneq Z Z) (jn (jx ?_)))
 refine jif Z (fun hc2 => ?_) (fun hc2 => ?_)
 refine jq (jr (ja Z (jn (jx (jrt (jtr ?_))))))
 have q1 : stE e0 st0 ss0 = 3 := by simp_all [stE,stV,stB,stS] <;> omega
 have q2 : stV e0 x0 st0 ss0 = 0 := by simp_all [stE,stV,stB,stS] <;> omega
 have q4 : stB e0 st0 ss0 = false := by simp_all [stE,stV,stB,stS] <;> omega
 have q3 : stS e0 st0 ss0 = st0 := by simp_all [stE,stV,stB,stS] <;> omega
 simp only [q1,q2,q3,q4]
 exact jr1 Z Z () Z dn (fun _ _ => (kc k0 kn))
 exact absurd hc2 (by simp)
 refine jsk (jx (jq (jq (jr (jm Z (js (jnil Z) (js (jf F115_1 Z) (js (jf F37_0 Z) (js (jl k0 O3 Z Z) (js (jneq Z Z) (jn ?_)))))))))))
 refine jx ?_
 refine jif Z (fun hc3 => ?_) (fun hc3 => ?_)
 refine jq (jr (ja Z (jn (jx (jrt (jtr ?_))))))
 have q1 : stE e0 st0 ss0 = e0 := by simp_all [stE,stV,stB,stS] <;> omega
 have q2 : stV e0 x0 st0 ss0 = x0 := by simp_all [stE,stV,stB,stS] <;> omega
 have q4 : stB e0 st0 ss0 = false := by simp_all [stE,stV,stB,stS] <;> omega
 have q3 : stS e0 st0 ss0 = st0 := by simp_all [stE,stV,stB,stS] <;> omega
 simp only [q1,q2,q3,q4]
 exact jr1 Z Z () Z dn (fun _ _ => (kc k0 kn))
 refine jsk (jx (jq (jr (jm Z (js (jnil Z) (js (jf F115_1 Z) (js (jf F37_4 Z) (js (jl k0 O3 Z Z) (js (jadd Z Z (by omega)) (js (jnil Z) (js (jf F115_1 Z) ?_)))))))))))
 refine js (jf F37_4 Z) (jst k0 Z3 Z Z Z s5 (jn (jx (jq (jr (ja Z (jn (jx (jrt ?_)))))))))
 have q1 : stE e0 st0 ss0 = e0 := by simp_all [stE,stV,stB,stS] <;> omega
 have q2 : stV e0 x0 st0 ss0 = x0 := by simp_all [stE,stV,stB,stS] <;> omega
 have q4 : stB e0 st0 ss0 = true := by simp_all [stE,stV,stB,stS] <;> omega
 have q3 : stS e0 st0 ss0 = st0 + 1 := by simp_all [stE,stV,stB,stS] <;> omega
 simp only [q1,q2,q3,q4]
 exact jr1 Z Z () Z dn (fun _ _ => (kc k0 kn))
end Go.Proofs.YtmfkkodnghambaaGreat
namespace Go.Proofs.YtmfkkodnghambaaGreat
open Go.JE
abbrev U113 := @Tryz.underlying113
theorem E102 : Ent Tryz.prog 102 := ⟨_,Tryz.func102,by kernel_rfl,by kernel_rfl⟩
theorem F115_0 : Fld Tryz.prog 115 0 0 := ⟨_,_,Tryz.underlying115,rfl,rfl,1,(by unfold Sz; kernel_rfl),by decide⟩
theorem O112 : One Tryz.prog 112 := ⟨_,Tryz.underlying112,rfl⟩
theorem O113 : One Tryz.prog 113 := ⟨_,Tryz.underlying113,rfl⟩
theorem J21 : (Tryz.prog.info? 21).bind (·.zero) = some (.int .i32 0) := by kernel_rfl
set_option maxRecDepth 4000
theorem rWords_ct {g0 gm : Nat} {V : Int → Int} {m0 c0 a0 : Value} {e0 x0 st0 ss0 : Int} {a1 : Value} {l : List Int} (om : m0.oneCell' = true) (oc : c0.oneCell' = true) (oa : a0.oneCell' = true) : Tr Tryz.prog 102 #[.pointer (some ⟨g0,0,none⟩),a1] [dv (rL (rI .i64)) a1 l] [bx g0 115 [.map (some gm),.int .i64 e0,.int .i32 x0,m0,c0,.int .i64 st0,a0,.int .i64 ss0],vm gm V] (fun c : Value => c) (fun _ => []) (fun B c => [bx g0 115 [.map (some gm),.int .i64 e0,.int .i32 x0,m0,c0,.int .i64 st0,a0,.int .i64 ss0],vm gm V,gl B (rI .i32) 21 c (l.map V)]) := by
 refine jenter (args := [.pointer (some ⟨g0,0,none⟩),a1]) Tryz.func102 rfl rfl rfl fun w0 X => ?_
 refine cvw k1 fun hvw => jq (jr (ja Z (jn (jx (jq (jq (jr (jm Z (jdq d0 fun q1 w1 => js (jln U22 d0 Z) ?_)))))))))
 refine jm Z (jn (jx (jb (cnl (r := (rI .i32)) (E := 21) ?_))))
 refine jlp (u3 fun (k : Nat) (ws : List Int) (vo : Value) => ⟨k ≤ l.length ∧ ws = (l.take k).map V,[dv (rL (rI .i64)) a1 l],[gl X.n (rI .i32) 21 vo ws,bx g0 115 [.map (some gm),.int .i64 e0,.int .i32 x0,m0,c0,.int .i64 st0,a0,.int .i64 ss0],vm gm V],[(0,.pointer (some ⟨g0,0,none⟩)),(4,vo),(7,a1),(8,.int .i64 (↑(List.length l))),(9,.int .i64 (↑k))],l.length - k⟩) (0,[],.slice none 0 0) ⟨by dsimp only; omega,rfl⟩ (dc d0 dn) (kd (kc k0 kn)) ⟨Z,Z,Z,Z,eqI (by omega),trivial⟩ ?_
 rintro ⟨k,ws,vo⟩; dsimp only [u3]; rintro ⟨hk,hws⟩
 refine cgo k0 fun w2 => ?_
 have hwl : ws.length = k := by rw [hws]; simp; omega
 refine jq (jr (js (jlss Z Z) (jn (jx (jq ?_)))))
 refine jif Z (fun hc1 => ?_) (fun hc1 => ?_)
 refine jsk (jx (jq (jb (jq (jr (js (jix U22 Z3 d0 Z Z Z (by omega)) (js (jlI (dix d0 k (by omega)) O3 Z) (ja Z (jn (jx (jr ?_)))))))))))
 refine jm Z (jm Z (js (jnil Z) (js (jf F115_0 Z) (js (jl k1 O113 Z Z) (jm Z (js (jvk U113 U3 J21 k2 Z Z) (japv U29 I21 (by decide) Z Z k0 Z (wI (wp (hvw (ix l k)))) (by omega) (fun _ => Z) fun v21 _ w3 => ja Z (jn (jbn (jx ?_))))))))))
 refine jr (js (jadd Z Z (by omega)) (jm Z (jn ?_)))
 exact jag (k + 1,ws ++ [V (ix l k)],v21) ⟨by dsimp only; omega,by dsimp only; rw [hws,take_ix (by omega),List.map_append]; rfl⟩ (dc d0 dn) (kd (kc k0 kn)) ⟨Z,Z,Z,Z,eqI (by omega),trivial⟩
 refine jex (jtx (jtx (jbh (jx (jq (jr (jm Z (ja Z (jn (jx (jrt ?_)))))))))))
 exact jr1 Z Z vo Z dn (fun _ hB => (kc k1 (kc k1 (klc (by rw [hws,List.take_of_length_le (by omega)]) hB k0 kn))))
theorem rTrap_ct {g0 : Nat} {v0 m0 c0 a0 : Value} {e0 x0 st0 ss0 : Int} (v : Int) (ok : Bool) {g2 : Nat} (ov : v0.oneCell' = true) (om : m0.oneCell' = true) (oc : c0.oneCell' = true) (oa : a0.oneCell' = true) : Tr Tryz.prog 103 #[.int .i32 v,.bool ok,.pointer (some ⟨g2,0,none⟩)] [] [bx g0 115 [v0,.int .i64 e0,.int .i32 x0,m0,c0,.int .i64 st0,a0,.int .i64 ss0],bx g2 112 [.pointer (some ⟨g0,0,none⟩)]] (fun _ : Unit => .int .i32 v) (fun _ => []) (fun _ _ => [bx g0 115 [v0,.int .i64 (if ok = true then e0 else 2),.int .i32 (if ok = true then x0 else -2),m0,c0,.int .i64 st0,a0,.int .i64 ss0],bx g2 112 [.pointer (some ⟨g0,0,none⟩)]]) := by
 refine jenter (args := [.int .i32 v,.bool ok,.pointer (some ⟨g2,0,none⟩)]) Tryz.func103 rfl rfl rfl fun w0 X => ?_
 refine jq (jr (ja Z (jn (jx (jq (jq (jr (jm Z (js (jnot Z) (jn (jx ?_)))))))))))
 refine jif Z (fun hc1 => ?_) (fun hc1 => ?_)
 refine jr (js (jl k1 O112 Z Z) (jc E101 Z Z (rEnd_ct _ _ ov om oc oa) dn (kc k0 kn) (fun _ => p0) (fun _ => p1) fun _ => jn (jx (jq (jr (jm Z (ja Z (jn (jx (jrt ?_))))))))))
 simp only [show ok = false from by simpa using hc1]
 exact jr1 Z Z () Z dn (fun _ _ => (kd kn))
 refine jsk (jx (jq (jr (jm Z (ja Z (jn (jx (jrt ?_))))))))
 simp only [show ok = true from by simpa using hc1]
 exact jr1 Z Z () Z dn (fun _ _ => (kd kn))
theorem rTerm_ct {g0 gm : Nat} {V : Int → Int} {m0 c0 a0 : Value} {e0 x0 st0 ss0 : Int} {a1a a1b : Value} {t : D.Term} (om : m0.oneCell' = true) (oc : c0.oneCell' = true) (oa : a0.oneCell' = true) (hT : ∃ s,shM t.Kind = some s ∧ (s.1 ≤ (t.Args.length : Int) ∧ (t.Args.length : Int) ≤ s.2.1) ∧ (s.2.2.1 ≤ (t.To.length : Int) ∧ (t.To.length : Int) ≤ s.2.2.2)) : Tr Tryz.prog 51 #[.pointer (some ⟨g0,0,none⟩),vTerm t (a1a,a1b)] [da rTerm (vTerm t (a1a,a1b)) t] [bx g0 115 [.map (some gm),.int .i64 e0,.int .i32 x0,m0,c0,.int .i64 st0,a0,.int .i64 ss0],vm gm V] (fun _ : Unit => .int .i64 (termB t V)) (fun _ => []) (fun _ _ => [bx g0 115 [.map (some gm),.int .i64 (termE t e0),.int .i32 (termV t V x0),m0,c0,.int .i64 st0,a0,.int .i64 ss0],vm gm V]) := by
 refine jenter (args := [.pointer (some ⟨g0,0,none⟩),vTerm t (a1a,a1b)]) Tryz.func51 rfl rfl rfl fun w0 X => ?_
 refine cvw k1 fun hvw => ?_
 have hT9 := shM_facts hT
 obtain ⟨hk0,hk1,hk2,hk3,hka⟩ := hT9
 have hun := u32_nn (ix (List.map V t.Args ++ [0]) 0)
 have hwl : (List.map V t.Args ++ [0]).length = t.Args.length + 1 := by simp
 refine jq (jr (jbox Z Z fun g3 => ja Z (jn (jx (jq (jr (jm Z (js (jf F60_1 Z) (js (jl k0 O22 Z Z) (jc E102 Z Z (rWords_ct om oc oa) (dc (rTerm.c_Args d0) dn) (kc k1 (kc k1 kn)) (fun _ => p0) (fun _ => p3) fun v10 => ?_))))))))))
 refine jgo k2 fun w1 => japv U29 I21 (by decide) Z Z k2 Z (wI (wl 0)) (by (try simp) <;> omega) (fun _ => Z) fun v12 _ w2 => ja Z (jn (jx (jq (jq (jr (js (jf F60_0 Z) (js (jl k3 O3 Z Z) (jn (jx ?_)))))))))
 refine jb (jq (jr (js (jeql Z Z) (ja Z (jn (jx ?_))))))
 refine jif Z (fun hc1 => ?_) (fun hc1 => ?_)
 have hk1 := hk1 hc1
 refine jq (jr (js (jf F60_2 Z) (js (jl k3 O22 Z Z) (jdq (rTerm.c_To d0) fun q3 w3 => js (jix (i := 0) U22 Z3 (rTerm.c_To d0) Z Z Z (by omega)) (js (jlI (dix (rTerm.c_To d0) 0 (by omega)) O3 Z) (ja Z (jn (jx (jrt (jbr ?_))))))))))
 refine jtr ?_
 have q1 : termB t V = ix t.To 0 := by first | (simp [termB,termE,termV,wT,hc1]; done) | (unfold termB; (repeat' split) <;> first | rfl | (exfalso; omega) | (simp_all [wT]; done)) | skip
 have q2 : termE t e0 = e0 := by first | (simp [termB,termE,termV,wT,hc1]; done) | (unfold termE; (repeat' split) <;> first | rfl | (exfalso; omega) | (simp_all [wT]; done)) | skip
 have q3 : termV t V x0 = x0 := by first | (simp [termB,termE,termV,wT,hc1]; done) | (unfold termV; (repeat' split) <;> first | rfl | (exfalso; omega) | (simp_all [wT]; done)) | skip
 simp only [q1,q2,q3]
 exact jr1 Z Z () Z dn (fun _ _ => (kc k1 (kc k1 kn)))
 refine jq (jr (js (jeql Z Z) (ja Z (jn (jx ?_)))))
 refine jif Z (fun hc2 => ?_) (fun hc2 => ?_)
 have hk2 := hk2 hc2
 refine jq (jq (jr (jm Z (js (jig (i := 0) U29 Z21 k0 Z Z Z (by first | omega | (simp <;> omega))) (js (jgI k0 (by first | omega | (simp <;> omega)) O21 Z) (js (jneq Z Z) (jn (jx ?_))))))))
 refine jif Z (fun hc3 => ?_) (fun hc3 => ?_)
 refine jq (jr (js (jf F60_2 Z) (js (jl k3 O22 Z Z) (jdq (rTerm.c_To d0) fun q4 w4 => js (jix (i := 0) U22 Z3 (rTerm.c_To d0) Z Z Z (by omega)) (js (jlI (dix (rTerm.c_To d0) 0 (by omega)) O3 Z) (ja Z (jn (jx (jrt (jtr ?_))))))))))
 refine jbr (jtr ?_)
 have q1 : termB t V = ix t.To 0 := by first | (simp [termB,termE,termV,wT,hc1,hc2,hc3]; done) | (unfold termB; (repeat' split) <;> first | rfl | (exfalso; omega) | (simp_all [wT]; done)) | skip
 have q2 : termE t e0 = e0 := by first | (simp [termB,termE,termV,wT,hc1,hc2,hc3]; done) | (unfold termE; (repeat' split) <;> first | rfl | (exfalso; omega) | (simp_all [wT]; done)) | skip
 have q3 : termV t V x0 = x0 := by first | (simp [termB,termE,termV,wT,hc1,hc2,hc3]; done) | (unfold termV; (repeat' split) <;> first | rfl | (exfalso; omega) | (simp_all [wT]; done)) | skip
 simp only [q1,q2,q3]
 exact jr1 Z Z () Z dn (fun _ _ => (kc k1 (kc k1 kn)))
 refine jsk (jx (jq (jr (js (jf F60_2 Z) (js (jl k3 O22 Z Z) (jdq (rTerm.c_To d0) fun q5 w5 => js (jix (i := 1) U22 Z3 (rTerm.c_To d0) Z Z Z (by omega)) (js (jlI (dix (rTerm.c_To d0) 1 (by omega)) O3 Z) (ja Z (jn (jx ?_))))))))))
 refine jrt (jbr (jtr ?_))
 have q1 : termB t V = ix t.To 1 := by first | (simp [termB,termE,termV,wT,hc1,hc2,hc3]; done) | (unfold termB; (repeat' split) <;> first | rfl | (exfalso; omega) | (simp_all [wT]; done)) | skip
 have q2 : termE t e0 = e0 := by first | (simp [termB,termE,termV,wT,hc1,hc2,hc3]; done) | (unfold termE; (repeat' split) <;> first | rfl | (exfalso; omega) | (simp_all [wT]; done)) | skip
 have q3 : termV t V x0 = x0 := by first | (simp [termB,termE,termV,wT,hc1,hc2,hc3]; done) | (unfold termV; (repeat' split) <;> first | rfl | (exfalso; omega) | (simp_all [wT]; done)) | skip
 simp only [q1,q2,q3]
 exact jr1 Z Z () Z dn (fun _ _ => (kc k1 (kc k1 kn)))
 refine jq (jr (js (jeql Z Z) (ja Z (jn (jx ?_)))))
 refine jif Z (fun hc4 => ?_) (fun hc4 => ?_)
 have hk3 := hk3 hc4
 refine jq (jr (js (jf F60_2 Z) (js (jl k3 O22 Z Z) (jdq (rTerm.c_To d0) fun q6 w6 => js (jln U22 (rTerm.c_To d0) Z) (js (jsub Z Z (by omega)) (ja Z (jn (jx (jq (jstl Mixed (by kernel_rfl) ?_))))))))))
 refine jt (jf F60_2 Z) (jt (jl k3 O22 Z Z) (jt (jmv Z) (jt (jig (i := 0) U29 Z21 k0 Z Z Z (by first | omega | (simp <;> omega))) (jt (jgI k0 (by first | omega | (simp <;> omega)) O21 Z) (jt (jco U21 U155 Z Z) (jt (jmv Z) (jt (jco U3 U155 Z (IntWalk.u32_in _ (by omega))) (jt (jmin Z Z) (jt (jix (i := (Int.toNat (min (IntKind.u32.wrap (ix ((List.map V t.Args) ++ [0]) 0)) ((↑(List.length t.To)) - 1)))) U22 Z3 (rTerm.c_To d0) Z Z (by omega) (by omega)) (jt (jlI (dix (rTerm.c_To d0) (Int.toNat (min (IntKind.u32.wrap (ix ((List.map V t.Args) ++ [0]) 0)) ((↑(List.length t.To)) - 1))) (by omega)) O3 Z) (jt (jas Z) ?_)))))))))))
 refine jdn (jx (jrt (jbr (jtr ?_))))
 have q1 : termB t V = ix t.To (Int.toNat (min (IntKind.u32.wrap (ix ((List.map V t.Args) ++ [0]) 0)) ((((List.length t.To : Nat) : Int)) - 1))) := by first | (simp [termB,termE,termV,wT,hc1,hc2,hc4]; done) | (unfold termB; (repeat' split) <;> first | rfl | (exfalso; omega) | (simp_all [wT]; done)) | skip
 have q2 : termE t e0 = e0 := by first | (simp [termB,termE,termV,wT,hc1,hc2,hc4]; done) | (unfold termE; (repeat' split) <;> first | rfl | (exfalso; omega) | (simp_all [wT]; done)) | skip
 have q3 : termV t V x0 = x0 := by first | (simp [termB,termE,termV,wT,hc1,hc2,hc4]; done) | (unfold termV; (repeat' split) <;> first | rfl | (exfalso; omega) | (simp_all [wT]; done)) | skip
 simp only [q1,q2,q3]
 exact jr1 Z Z () Z dn (fun _ _ => (kc k1 (kc k1 kn)))
 refine jq (jr (js (jeql Z Z) (ja Z (jn (jx ?_)))))
 refine jif Z (fun hc5 => ?_) (fun hc5 => ?_)
 refine jr (jm Z (jm Z (js (jig (i := 0) U29 Z21 k0 Z Z Z (by first | omega | (simp <;> omega))) (js (jgI k0 (by first | omega | (simp <;> omega)) O21 Z) (jc E101 Z Z (rEnd_ct _ _ Z om oc oa) dn (kc k1 kn) (fun _ => p0) (fun _ => p1) fun _ => jn (jbn (jx (jq (jr (ja Z ?_))))))))))
 refine jn (jx (jrt ?_))
 have q1 : termB t V = 0 := by first | (simp [termB,termE,termV,wT,hc1,hc2,hc4,hc5]; done) | (unfold termB; (repeat' split) <;> first | rfl | (exfalso; omega) | (simp_all [wT]; done)) | skip
 have q2 : termE t e0 = 1 := by first | (simp [termB,termE,termV,wT,hc1,hc2,hc4,hc5]; done) | (unfold termE; (repeat' split) <;> first | rfl | (exfalso; omega) | (simp_all [wT]; done)) | skip
 have q3 : termV t V x0 = ix ((List.map V t.Args) ++ [0]) 0 := by first | (simp [termB,termE,termV,wT,hc1,hc2,hc4,hc5]; done) | (unfold termV; (repeat' split) <;> first | rfl | (exfalso; omega) | (simp_all [wT]; done)) | skip
 simp only [q1,q2,q3]
 exact jr1 Z Z () Z dn (fun _ _ => (kc k0 (kc k1 kn)))
 refine jr (jm Z (js (jf F60_3 Z) (js (jl k3 O21 Z Z) (jc E101 Z Z (rEnd_ct _ _ Z om oc oa) dn (kc k1 kn) (fun _ => p0) (fun _ => p1) fun _ => jn (jbn (jx (jq (jr (ja Z (jn ?_))))))))))
 refine jx (jrt ?_)
 have q1 : termB t V = 0 := by first | (simp [termB,termE,termV,wT,hc1,hc2,hc4,hc5]; done) | (unfold termB; (repeat' split) <;> first | rfl | (exfalso; omega) | (simp_all [wT]; done)) | skip
 have q2 : termE t e0 = 2 := by first | (simp [termB,termE,termV,wT,hc1,hc2,hc4,hc5]; done) | (unfold termE; (repeat' split) <;> first | rfl | (exfalso; omega) | (simp_all [wT]; done)) | skip
 have q3 : termV t V x0 = t.Imm := by first | (simp [termB,termE,termV,wT,hc1,hc2,hc4,hc5]; done) | (unfold termV; (repeat' split) <;> first | rfl | (exfalso; omega) | (simp_all [wT]; done)) | skip
 simp only [q1,q2,q3]
 exact jr1 Z Z () Z dn (fun _ _ => (kc k0 (kc k1 kn)))
end Go.Proofs.YtmfkkodnghambaaGreat
namespace Go.Proofs.YtmfkkodnghambaaGreat
open Go.JE
theorem E100 : Ent Tryz.prog 100 := ⟨_,Tryz.func100,by kernel_rfl,by kernel_rfl⟩
set_option maxRecDepth 4000
theorem rPhis1_ct {x : D.In} {c : Int} {g1 : Nat} : Tr Tryz.prog 100 #[vIn x (),.pointer (some ⟨g1,0,none⟩)] [da rIn (vIn x ()) x] [bx g1 3 [.int .i64 c]] (fun _ : Unit => .bool (isFrom c x)) (fun _ => []) (fun _ _ => [bx g1 3 [.int .i64 c]]) := by
 refine jenter (args := [vIn x (),.pointer (some ⟨g1,0,none⟩)]) Tryz.func100 rfl rfl rfl fun w0 X => ?_
 refine jq (jr (jbox Z Z fun g2 => ja Z (jn (jx (jq (jr (js (jf F111_0 Z) (js (jl k0 O3 Z Z) (js (jl k1 O3 Z Z) (js (jeql Z Z) ?_))))))))))
 refine ja Z (jn (jx (jrt ?_)))
 exact jr1 Z Z () (congrArg Value.bool (Eq.symm (by rfl))) dn (fun _ _ => (kc k1 kn))
theorem rPhis_ct {g0 gm : Nat} {V : Int → Int} {m0 c0 a0 : Value} {e0 x0 st0 ss0 : Int} {a1 : Value} {l : List D.Phi} (fr : Int) (om : m0.oneCell' = true) (oc : c0.oneCell' = true) (oa : a0.oneCell' = true) (hp : ∀ p ∈ l,fr ∈ p.In.map (fun x => x.From)) : Tr Tryz.prog 48 #[.pointer (some ⟨g0,0,none⟩),a1,.int .i64 fr] [dv (rL rPhi) a1 l] [bx g0 115 [.map (some gm),.int .i64 e0,.int .i32 x0,m0,c0,.int .i64 st0,a0,.int .i64 ss0],vm gm V] (fun _ : Unit => .tuple #[]) (fun _ => []) (fun _ _ => [bx g0 115 [.map (some gm),.int .i64 e0,.int .i32 x0,m0,c0,.int .i64 st0,a0,.int .i64 ss0],vm gm (phisV fr l V)]) := by
 refine jenter (args := [.pointer (some ⟨g0,0,none⟩),a1,.int .i64 fr]) Tryz.func48 rfl rfl rfl fun w0 X => ?_
 refine cvw k1 fun hvw => jq (jr (jbox Z Z fun g5 => jn (jx (jq (jr (jnn fun g12 => ja Z (jn (jx ?_))))))))
 refine jq (jq (jr (jm Z (jdq d0 fun q1 w1 => js (jln U57 d0 Z) (jm Z (jn (jx (jb ?_))))))))
 refine jlp (u2 fun (k : Nat) (nx : List (Int × Int)) => ⟨k ≤ l.length ∧ nx = phWl fr V (l.take k) [],[dv (rL rPhi) a1 l],[nm g12 nx,bx g5 3 [.int .i64 fr],bx g0 115 [.map (some gm),.int .i64 e0,.int .i32 x0,m0,c0,.int .i64 st0,a0,.int .i64 ss0],vm gm V],[(0,.pointer (some ⟨g0,0,none⟩)),(5,.pointer (some ⟨g5,0,none⟩)),(6,.map (some g12)),(13,a1),(14,.int .i64 (↑(List.length l))),(15,.int .i64 (↑k))],l.length - k⟩) (0,[]) ⟨by dsimp only; omega,rfl⟩ (dc d0 dn) (kd (kd kn)) ⟨Z,Z,Z,Z,Z,eqI (by omega),trivial⟩ ?_
 rintro ⟨k,nx⟩; dsimp only [u2]; rintro ⟨hk,hnx⟩
 refine jq (jr (js (jlss Z Z) (jn (jx (jq ?_)))))
 refine jif Z (fun hc1 => ?_) (fun hc1 => ?_)
 have hix := idx_from (hp _ (ix_mem (l := l) (i := k) (by omega)))
 refine jsk (jx (jq (jb (jq (jr (js (jix U57 Z65 d0 Z Z Z (by omega)) (jA sPhi (jlA (dix d0 k (by omega)) A65 Z65 Z) fun c18 => jalc J65 Z fun g8 => jdq (rPhi.c_In d0) fun q3 w3 => jsta k0 Z65 Z Z Z ⟨Z,w3.one,trivial⟩ (saf Z) (jn ?_))))))))
 refine jx (jq (jr (js (jf F65_1 Z) (js (jl k0 O63 Z Z) (js (jmf1 Z) (jcp E81 Z Z (idxFIn_ct (isFrom fr) E100 (fun x _ c => Tr.it rPhis1_ct ir)) (dc (rPhi.c_In d0) (dc (db dn) dn)) (kc k2 kn) p1 (ja Z (jn (jx (jany false (.a 0 (.a 1 (.a 2 (.a 3 (.a 4 (.a 5 (.a 6 (.a 7 (.a 8 (.a 9 (.a 10 (.a 11 (.a 12 (.a 13 (.o 14 .e))))))))))))))) Mixed (by kernel_rfl) (kc k1 (kc k2 (kc k2 kn))) fun F4 => jy Z (jmv Z) ?_))))))))))
 refine jy Z (jf F65_0 Z) (jy Z (jl k0 O3 Z Z) (jy Z (jmv Z) (jy Z (jnil Z) (jy Z (jf F115_0 Z) (jy Z (jl k1 O113 Z Z) (jy Z (jf F65_1 Z) (jy Z (jl k0 O63 Z Z) (jy Z (jmv Z) (jy Z (jix (i := (Int.toNat (idxM ((ix l k).In) (isFrom fr)))) U63 Z111 (rPhi.c_In d0) Z Z (by omega) (by omega)) (jy Z (jf F111_1 Z) (jy Z (jlI (rIn.A_Val (dix (rPhi.c_In d0) (Int.toNat (idxM ((ix l k).In) (isFrom fr))) (by omega))) O3 Z) ?_)))))))))))
 refine jy Z (jvk U113 U3 J21 k2 Z Z) (jyo Z (jnu U113 U3 k2 Z Z Z (jyn d0 (kc k2 (kc k2 (kc k2 kn))) (jyd (jbn (jx (jr (js (jadd Z Z (by omega)) (jm Z (jn ?_))))))))))
 exact jag (k + 1,upW nx ((ix l k).Dst) (V ((ix ((ix l k).In) (Int.toNat (idxM ((ix l k).In) (isFrom fr)))).Val))) ⟨by dsimp only; omega,by dsimp only; rw [phWl_nx (by omega),← hnx]⟩ (dc d2 dn) (kd (kc k1 (kc k1 kn))) ⟨Z,Z,Z,Z,Z,eqI (by omega),trivial⟩
 have hnd : (nx.map (·.1)).Nodup := by rw [hnx]; exact phWl_nd _ _ (by simp)
 have hnw : ∀ p ∈ nx,IntKind.i32.wrap p.2 = p.2 := by rw [hnx]; exact encW_wr (nx := []) hvw _ _ (fun p h => by cases h)
 refine jex (jtx (jtx (jbh (jx (jq (jr (jm Z (jri U113 k0 Z fun g39 => jn (jx (jb ?_))))))))))
 refine jlp (u2 fun (vis : List Int) (V2 : Int → Int) => ⟨(vis.Nodup ∧ ∀ y ∈ vis,y ∈ nx.map (·.1)) ∧ V2 = partW nx vis V,[],[mit g39 g12 nx vis,bx g0 115 [.map (some gm),.int .i64 e0,.int .i32 x0,m0,c0,.int .i64 st0,a0,.int .i64 ss0],vm gm V2],[(0,.pointer (some ⟨g0,0,none⟩)),(39,.pointer (some ⟨g39,0,none⟩))],nx.length - vis.length⟩) ([],V) ⟨⟨by simp,by simp⟩,by dsimp only; funext j; simp [partW]⟩ dn (kc k0 (kc k1 (kc k1 kn))) ⟨Z,Z,trivial⟩ ?_
 rintro ⟨vis,V2⟩; dsimp only [u2]; rintro ⟨hv,hV2⟩
 refine jq (jr ?_)
 refine jni k0 Z (fun hd1 => ?_) (fun y1 z1 hy1 hn1 => ?_)
 refine js (jex' Z Z) (jn (jx (jq ?_)))
 refine jif Z (fun hc2 => ?_) (fun hc2 => ?_)
 exact absurd hc2 (by simp)
 refine jex (jtx (jtx (jbh ?_)))
 obtain rfl : V2 = phisV fr l V := by rw [hV2,partW_all hd1,hnx,List.take_of_length_le (by omega)]; rfl
 exact jd0 Z () Z dn (fun _ _ => (kc k1 (kc k1 kn)))
 have hlt1 := visW_lt hv.1 hv.2 hy1 hn1
 refine js (jex' Z Z) (jn (jx (jq ?_)))
 refine jif Z (fun hc3 => ?_) (fun hc3 => ?_)
 refine jsk (jx (jb (jq (jr (js (jei k0 hy1 Z) (js (jex' Z Z) (js (jex' Z Z) (ja Z (ja Z (jn (jx ?_)))))))))))
 refine jr (jm Z (js (jnil Z) (js (jf F115_0 Z) (js (jl k1 O113 Z Z) (jm Z (jm Z (jvu U113 U3 k2 Z Z Z (wp (hnw _ hy1)) (jn (jbn ?_)))))))))
 exact jag (vis ++ [y1],setV V2 y1 z1) ⟨⟨vis_nd9 hv.1 hn1,fun y h => (List.mem_append.1 h).elim (hv.2 y) (fun h => by simp at h; subst h; exact List.mem_map.2 ⟨_,hy1,rfl⟩)⟩,by dsimp only; rw [hV2]; exact partW_nx hnd hy1⟩ dn (kc k1 (kc k1 (kc k0 kn))) ⟨Z,Z,trivial⟩ (by dsimp only [u2]; rw [List.length_append]; simp; omega)
 exact absurd hc3 (by simp)
end Go.Proofs.YtmfkkodnghambaaGreat
namespace Go.Proofs.YtmfkkodnghambaaGreat
open Go.JE
structure EV where
 C : Int
 U : Value
instance : Inhabited EV := ⟨⟨0,.slice none 0 0⟩⟩
def rEV : Rp EV := rM (rP (rI .i32) rV) (fun m => (m.C,m.U))
abbrev evL (B : Nat) (v : Value) (qs : List EV) (cs : List D.Event) : List Res := [gl B rEV 74 v qs,rw' B (rI .i32) 21 (qs.map EV.U) (cs.map D.Event.Args)]
abbrev evF (qs : List EV) (cs : List D.Event) : Prop := qs.length = cs.length ∧ qs.map EV.C = cs.map D.Event.Callee
def evr (B : Nat) (v : Value) (qs : List EV) (cs : List D.Event) : Res where
 sat F H := evF qs cs ∧ Ok F H (evL B v qs cs)
 own := JE.Own (evL B v qs cs)
 lt := fun h => Ok.lt h.2
 no := fun h => Ok.no h.2
 st := fun hl hs h1 h2 h => ⟨h.1,Ok.st hl hs h1 h2 h.2⟩
abbrev lensE (cs : List D.Event) : Prop := cs.length < 1073741824 ∧ ∀ c ∈ cs,c.Args.length < 1073741824
section
variable {P : Program} {D0 Γ : List Dt} {L M N L0 : List Res} {e : Env} {X : Cx} {n : Fs} {w0 : World} {Q : Exit → Act → World → Prop} {F G : PH} {H : Heap} {B Bw j i o : Nat} {v u v' w : Value} {qs : List EV} {cs : List D.Event} {l : List Int} {cc : Int}
theorem hp_evo (h : Hp X Γ (evr B v qs cs :: M) F H) : evF qs cs ∧ Hp X Γ (evL B v qs cs ++ M) F H :=
 ⟨h.ok.1.1,⟨h.hx,h.hin,h.hw,h.hd,Ok.app h.ok.1.2 h.ok.2.2 h.ok.2.1,fun k hk => h.ge k ((JE.Own.app.1 hk).imp id id)⟩⟩
theorem hp_evc (hf : evF qs cs) (h : Hp X Γ (evL B v qs cs ++ M) F H) : Hp X Γ (evr B v qs cs :: M) F H := by
 obtain ⟨a,b,c⟩ := Ok.un.2 h.ok
 exact ⟨h.hx,h.hin,h.hw,h.hd,⟨⟨hf,a⟩,b,c⟩,fun k hk => h.ge k (JE.Own.app.2 (hk.imp id id))⟩
theorem evn (hB : B ≤ H.size) : (evr B (.slice none 0 0) [] []).sat F H := ⟨⟨rfl,rfl⟩,⟨Gl.nil _ _ _,hB⟩,(fun k h => by cases h),trivial,(fun _ h => h.elim),trivial⟩
theorem own_evn {k : Nat} : ¬ (evr B (.slice none 0 0) [] []).own k := fun h => by
 rcases h with h | h | h
 · cases h
 · exact h.elim
 · exact h.elim
theorem hp_evn (hp : Hp X Γ L F H) : Hp X Γ (evr X.n (.slice none 0 0) [] [] :: L) F H := hp.new (R := evr X.n (.slice none 0 0) [] []) (Kp.refl _ _) (evn hp.hw.1) (fun k h => (own_evn h).elim)
theorem cevn {c : Code} (k : CH P n w0 Q X Γ (evr X.n (.slice none 0 0) [] [] :: L) e c) : CH P n w0 Q X Γ L e c := fun F H hp => k F H (hp_evn hp)
theorem ok_base {α : Type} {r : Rp α} {T : TypeId} {B' : Nat} (hB : B ≤ B') : ∀ {vs : List Value} {ls : List (List α)},Ok F H (rws B' r T vs ls) → Ok F H (rws B r T vs ls)
 | [],_,_ => by simp [rws,Ok]
 | _ :: _,[],_ => by simp [rws,Ok]
 | v :: vs,l :: ls,⟨⟨a,a2⟩,b,c⟩ => ⟨⟨a.base hB,Nat.le_trans hB a2⟩,fun k hk ho => b k hk ((own_base (vs := vs) (ls := ls)).1 ho),ok_base hB c⟩
where own_base {k : Nat} : ∀ {vs : List Value} {ls : List (List α)},JE.Own (rws B r T vs ls) k ↔ JE.Own (rws B' r T vs ls) k
 | [],_ => by simp [rws]
 | _ :: _,[] => by simp [rws]
 | v :: vs,l :: ls => by
   have ih := own_base (vs := vs) (ls := ls) (k := k)
   simp only [rws,List.zipWith_cons_cons,JE.Own] at ih ⊢
   rw [ih]; exact Iff.rfl
theorem rws_own {α : Type} {r : Rp α} {T : TypeId} {B' k : Nat} {vs : List Value} {ls : List (List α)} : JE.Own (rws B r T vs ls) k ↔ JE.Own (rws B' r T vs ls) k := by
 induction vs generalizing ls with
 | nil => simp [rws]
 | cons v vs ih =>
   cases ls with
   | nil => simp [rws]
   | cons l ls =>
     have := ih (ls := ls)
     simp only [rws,List.zipWith_cons_cons,JE.Own] at this ⊢
     rw [this]; exact Iff.rfl
theorem evr_own {B' k : Nat} : (evr B v qs cs).own k ↔ (evr B' v qs cs).own k := by
 show (_ ∨ JE.Own (rws B _ _ _ _) k ∨ False) ↔ (_ ∨ JE.Own (rws B' _ _ _ _) k ∨ False)
 rw [rws_own (B' := B')]; exact Iff.rfl
theorem evr_base {B' : Nat} (hB : B ≤ B') (h : (evr B' v qs cs).sat F H) : (evr B v qs cs).sat F H := by
 obtain ⟨hf,⟨a,a2⟩,b,c,d,_⟩ := h
 exact ⟨hf,⟨a.base hB,Nat.le_trans hB a2⟩,fun k hk ho => b k hk (ho.imp (fun h => rws_own.1 h) id),ok_base hB c,fun _ _ h => h,trivial⟩
theorem klE {Ls : List Res} (hB : B ≤ X.n) (h : Tk L (evr X.n v qs cs) M) (h' : Tks M Ls N) : Tks L (evr B v qs cs :: Ls) N where
 ok := fun o => by
   obtain ⟨⟨a,b,c⟩,x,y⟩ := (kc h h').ok o
   refine ⟨⟨evr_base hB a,fun k hk => b k (evr_own.1 hk),c⟩,x,fun k hk => y k (hk.imp (fun h => evr_own.1 h) id)⟩
 own := fun o => (kc h h').own (o.imp (fun h => h.imp (fun h => evr_own.1 h) id) id)
theorem klEc {Ls : List Res} {cs' : List D.Event} (e1 : cs' = cs) (hB : B ≤ X.n) (h : Tk L (evr X.n v qs cs) M) (h' : Tks M Ls N) : Tks L (evr B v qs cs' :: Ls) N := e1 ▸ klE hB h h'
theorem evB (h : (evr B v qs cs).sat F H) : B ≤ H.size := h.2.1.2
theorem ev_app {qs2 : List EV} {cs2 : List D.Event} (hf : evF qs cs) (hf2 : evF qs2 cs2) (hB : B ≤ Bw) (h : Hp X Γ (gl B rEV 74 v' (qs ++ qs2) :: rw' Bw (rI .i32) 21 (qs2.map EV.U) (cs2.map D.Event.Args) :: rw' B (rI .i32) 21 (qs.map EV.U) (cs.map D.Event.Args) :: N) F H) : Hp X Γ (evr B v' (qs ++ qs2) (cs ++ cs2) :: N) F H := by
 obtain ⟨a,b,c,d,f,g,x⟩ := h.ok
 have hz : rws B (rI .i32) 21 ((qs ++ qs2).map EV.U) ((cs ++ cs2).map D.Event.Args) = rws B (rI .i32) 21 (qs.map EV.U) (cs.map D.Event.Args) ++ rws B (rI .i32) 21 (qs2.map EV.U) (cs2.map D.Event.Args) := by
   unfold rws; rw [List.map_append,List.map_append,List.zipWith_append (by simp [hf.1])]
 have ho : ∀ {k},JE.Own (rws B (rI .i32) 21 ((qs ++ qs2).map EV.U) ((cs ++ cs2).map D.Event.Args)) k → JE.Own (rws B (rI .i32) 21 (qs.map EV.U) (cs.map D.Event.Args)) k ∨ JE.Own (rws Bw (rI .i32) 21 (qs2.map EV.U) (cs2.map D.Event.Args)) k := fun h => by
   rw [hz] at h; exact (JE.Own.app.1 h).imp id (fun h => rws_own.1 h)
 have hk : Ok F H (rws B (rI .i32) 21 ((qs ++ qs2).map EV.U) ((cs ++ cs2).map D.Event.Args)) := by
   rw [hz]; exact Ok.app f (ok_base hB c) (fun k hk h1 => d k (rws_own.1 h1) (.inl hk))
 refine ⟨h.hx,h.hin,h.hw,h.hd,⟨⟨⟨by simp [hf.1,hf2.1],by rw [List.map_append,List.map_append,hf.2,hf2.2]⟩,a,fun k hk h1 => (ho (h1.resolve_right id)).elim (fun h => b k hk (.inr (.inl h))) (fun h => b k hk (.inl h)),hk,fun _ _ h => h,trivial⟩,fun k hk hN => ?_,x⟩,fun k hk => ?_⟩
 · rcases hk with hk | hk
   · exact b k hk (.inr (.inr hN))
   · exact (ho (hk.resolve_right id)).elim (fun h => g k h hN) (fun h => d k h (.inr hN))
 · rcases hk with (hk | hk) | hk
   · exact h.ge k (.inl hk)
   · exact (ho (hk.resolve_right id)).elim (fun h9 => h.ge k (.inr (.inr (.inl h9)))) (fun h9 => h.ge k (.inr (.inl h9)))
   · exact h.ge k (.inr (.inr (.inr hk)))
section
variable {ops : Array Oper} {rest : List Oper} {d bytes : Nat} {ty T : TypeId} {pos : String} {af : Array Edge} {x y : Operand} {z : Value}
theorem jevz {ys : List (Nat × Operand)} (hT : P.underlying T = some (.slice 74)) (hE : (P.info? 74).map (fun i => (i.zero,i.size,i.bytes)) = some (some z,2,bytes)) (hz : z.cells.size = 2) (hr : evs e ys = some (([Value.agg [.int .i32 cc,w].toArray].zipIdx 0).map fun p => (p.2,p.1)))
   (hk : Tk L (gl X.n (rI .i32) 21 w l) M) (hw : w.oneCell' = true) (hc : Wr Γ L .i32 cc)
   (k : ∀ g,LH P n w0 ops Q X Γ (evr X.n (.slice (some ⟨g,0,none⟩) 1 1) [⟨cc,w⟩] [⟨cc,l⟩] :: M) ((d,.slice (some ⟨g,0,none⟩) 1 1) :: e) rest) (hd : Nat.blt d n.sz = true := by rfl) : LH P n w0 ops Q X Γ L e (⟨some d,.buildSlice T 1 ys.toArray,ty,pos,af,none⟩ :: rest) := fun F H hp => by
 have hcc := hc F H hp.hin hp.hd hp.ok
 exact jlit (r := rEV) (l := [⟨cc,w⟩]) (m := 1) hT hE (by decide) hz hr rfl (lA (fun _ _ _ _ _ => ⟨_,rfl,rfl,⟨⟨rfl,hcc⟩,⟨rfl,hw⟩⟩⟩) ln)
   (fun g F2 H2 hp2 => k g F2 H2 (ev_app (qs := []) (cs := []) (qs2 := [⟨cc,w⟩]) (cs2 := [⟨cc,l⟩]) ⟨rfl,rfl⟩ ⟨rfl,rfl⟩ (Nat.le_refl _) (by
     have h1 := hp_tks hp2 (kc k0 (kc hk kn))
     refine hp_re h1 (fun o => ?_) (fun k hk => ?_)
     · obtain ⟨a,b,c,d,f⟩ := o
       exact ⟨a,fun k hk ho => b k hk (ho.elim (fun h => .inl (h.resolve_right id)) (fun h => .inr (h.resolve_left id))),⟨c,fun _ _ h => h,trivial⟩,fun k hk ho => d k (hk.resolve_right id) (ho.resolve_left id),trivial,fun _ h => h.elim,f⟩
     · rcases hk with hk | hk | hk | hk
       · exact .inl hk
       · exact .inr (.inl (hk.resolve_right id))
       · exact hk.elim
       · exact .inr (.inr hk)))) hd F H hp
theorem jeva {v2 : Value} {qs2 : List EV} {cs2 : List D.Event} (hT : P.underlying T = some (.slice 74)) (hE : (P.info? 74).map (fun i => (i.zero,i.size,i.bytes)) = some (some z,2,bytes)) (hs : 0 < 2 ∧ 2 ≤ 1000 ∧ bytes ≤ 8192) (hz : z.cells.size = 2)
   (hk : Tk L (evr B v qs cs) M) (hk2 : Tk M (evr X.n v2 qs2 cs2) N) (hB : B ≤ X.n) (hx : ev e x = some v) (hy : ev e y = some v2) (hb : cs.length + cs2.length < 1073741824)
   (k : ∀ v',Sv v' → LH P n w0 ops Q X Γ (evr B v' (qs ++ qs2) (cs ++ cs2) :: N) ((d,v') :: e) rest) (hd1 : Nat.blt d n.sz = true := by rfl) :
   LH P n w0 ops Q X Γ L e (⟨some d,.call { callee := .builtin .append,args := #[x,y],argTypes := #[T,T] },ty,pos,af,none⟩ :: rest) := fun F H hp => by
 have h1 := hp_tks hp (kc hk (kc hk2 kn))
 have hf : evF qs cs := h1.ok.1.1
 have hf2 : evF qs2 cs2 := h1.ok.2.2.1.1
 have h2 := (hp_evo h1).2
 have h3 := (hp_evo (hp_tks h2 (kc k2 (kd kn)))).2
 obtain ⟨G,h4⟩ := h3.freeze (N := 1073741824) k0 (by rw [hf2.1]; omega)
 exact japl (r := rEV) (m := qs2) hT hE hs hz k1 hx hy d0 (by rw [hf.1,hf2.1]; omega)
   (fun v' sv F2 H2 hp2 => by
     have h5 : Hp X Γ _ F2 H2 := ⟨hp2.hx,hp2.hin,hp2.hw,hp2.hd.2,hp2.ok,hp2.ge⟩
     exact k v' sv F2 H2 (ev_app hf hf2 hB h5)) hd1 G H h4
end
theorem ev_freeze (hin : InH F H) (h : (evr B v qs cs).sat F H) (hl : lensE cs) : ∃ G,F.le G ∧ InH G H ∧ (∀ k,k < B → G k = F k) ∧ (∀ k,¬ (evr B v qs cs).own k → G k = F k) ∧ (rL rEvent).rv G v cs := by
 obtain ⟨hf,o1,o2,o3,_⟩ := h
 have o1' : Gl rEV 74 F H B v qs := o1.1
 obtain ⟨G,f1,f2,f3,f4,f5⟩ := o1'.freeze (N := 1073741824) hin (by rw [hf.1]; exact hl.1)
 have q3 : Ok G H (rws B (rI .i32) 21 (qs.map EV.U) (cs.map D.Event.Args)) := Ok.st f1 (Nat.le_refl _) (fun k hk => (f4 k (fun e1 => o2 k e1 (.inl hk))).trans (Ok.no (L := rws B (rI .i32) 21 (qs.map EV.U) (cs.map D.Event.Args)) o3 hk)) (fun _ _ => rfl) o3
 obtain ⟨K,g1,g2,g3,g4,g5⟩ := rws_freeze f2 q3 (by simp [hf.1]) (fun l hl' => by obtain ⟨b,hb,rfl⟩ := List.mem_map.1 hl'; exact hl.2 b hb)
 refine ⟨K,f1.trans g1,g2,fun k hk => (g3 k hk).trans (f3 k hk),fun k hk => (g4 k (fun h => hk (.inr (.inl h)))).trans (f4 k (fun h => hk (.inl h))),?_⟩
 obtain ⟨a,b,c,d,f,g,g',x,y⟩ := Rp.rv.up f5 g1
 refine ⟨hf.1 ▸ a,b,c,hf.1 ▸ d,hf.1 ▸ f,fun i hi => g i (by rw [hf.1]; exact hi),g',fun i hi => x i (by rw [hf.1]; exact hi),fun i hi => ?_⟩
 have hi' : i < qs.length := by rw [hf.1]; exact hi
 have h2 := y i hi'
 have h3 := g5 i (by simpa using hi') (by simpa using hi)
 simp only [List.getElem_map] at h3
 have h5 : qs[i].C = cs[i].Callee := by
   have := congrArg (fun l => l[i]?) hf.2
   simpa [hi,hi'] using this
 have h6 : (rI .i32).ok K qs[i].C (fun q => g' (i * 2 + q)) := h2.1
 rw [h5] at h6
 refine ⟨h6,(rL (rI .i32)).ext (fun j hj => ?_) h3⟩
 rw [show j = 0 from Nat.lt_one_iff.1 hj]; exact h2.2.1.symm
theorem hp_efz (hp : Hp X Γ L F H) (hk : Tk L (evr X.n v qs cs) M) (hl : lensE cs) : ∃ G,Hp X (dv (rL rEvent) v cs :: Γ) M G H := by
 obtain ⟨o1,o2,o3⟩ := hk.ok hp.ok
 obtain ⟨G,h1,h2,h3,h4,h5⟩ := ev_freeze hp.hin o1 hl
 have h6 : ∀ k,JE.Own M k → G k = F k := fun k hk1 => h4 k (fun e1 => o2 k e1 hk1)
 exact ⟨G,⟨⟨hp.hx.1.trans h1,fun k hk1 => (h3 k hk1).trans (hp.hx.2 k hk1)⟩,h2,hp.hw,⟨h5,hp.hd.up h1⟩,o3.st h1 (Nat.le_refl _) (fun k hk1 => (h6 k hk1).trans (o3.no hk1)) (fun _ _ => rfl),fun k hk1 => hp.ge k (hk.own (.inr hk1))⟩⟩
theorem jefz {ops : Array Oper} {rest : List Oper} (hk : Tk L (evr X.n v qs cs) M) (hl : lensE cs) (k : LH P n w0 ops Q X (dv (rL rEvent) v cs :: Γ) M e rest) : LH P n w0 ops Q X Γ L e rest := fun F H hp => by
 obtain ⟨G,h⟩ := hp_efz hp hk hl; exact k G H h
theorem ev_flat (h : (evr B v qs cs).sat G H) (hl : F.le G) : (evr B v qs cs).sat F H := by
 have hr : ∀ {vs : List Value} {ls : List (List Int)},Ok G H (rws B (rI .i32) 21 vs ls) → Ok F H (rws B (rI .i32) 21 vs ls) := by
   intro vs
   induction vs with
   | nil => intro ls _; simp [rws,Ok]
   | cons v vs ih =>
     intro ls h
     cases ls with
     | nil => simp [rws,Ok]
     | cons l ls => exact ⟨⟨h.1.1.flatI hl,h.1.2⟩,h.2.1,ih h.2.2⟩
 exact ⟨h.1,⟨h.2.1.1.down (fun _ _ _ _ h => h) hl,h.2.1.2⟩,h.2.2.1,hr h.2.2.2.1,fun _ _ h => h,trivial⟩
end
section
variable {P : Program} {D0 Γ : List Dt} {L M N L0 : List Res} {e : Env} {X : Cx} {n : Fs} {w0 : World} {Q : Exit → Act → World → Prop} {F G : PH} {H : Heap} {B Bw j i o : Nat} {v u v' w : Value} {qs : List EV} {cs : List D.Event} {l : List Int} {cc : Int}
theorem jgoE {ops : Array Oper} {rest : List Oper} (hk : Tk L (evr B v qs cs) M) (k : Sv v → LH P n w0 ops Q X Γ L e rest) : LH P n w0 ops Q X Γ L e rest := fun F H hp => k (Gl.sv (hp.at hk).2.1.1) F H hp
theorem cgoE {c : Code} (hk : Tk L (evr B v qs cs) M) (k : Sv v → CH P n w0 Q X Γ L e c) : CH P n w0 Q X Γ L e c := fun F H hp => k (Gl.sv (hp.at hk).2.1.1) F H hp
def dpr (p : Prop) : Dt := ⟨fun _ => p,fun _ h => h⟩
theorem npr {p : Prop} (h : p) : Nd Γ L (dpr p) := fun _ _ _ _ _ => h
theorem jpr {p : Prop} {ops : Array Oper} {rest : List Oper} (h : Nd Γ L (dpr p)) (k : p → LH P n w0 ops Q X Γ L e rest) : LH P n w0 ops Q X Γ L e rest := fun F H hp => k (h F H hp.hin hp.hd hp.ok) F H hp
variable {f : FuncId} {fn : Func} {c : Code} {args : List Value} {ι : Type} {val : ι → Value} {dr : ι → List Dt} {lr : Nat → ι → List Res}
theorem jenterG {m : Nat} {p : Nat → Prop} (hp : ∀ F H,Ok F H L0 → p H.size) (hf : P.funcs[f]? = some fn) (hb : fn.body = some c) (hn : fn.ntmps = m) (ha : Nat.ble args.length m = true)
   (h : ∀ (w0 : World) (X : Cx),p X.n → CH P ⟨m,[]⟩ w0 (RQ2 P fn w0 X val dr lr) X D0 L0 (number 0 args) c) : Tr P f args.toArray D0 L0 val dr lr := fun F H hin hd ho =>
 Ct.enter hf hb hn ha fun w0 hw => h w0 ⟨JE.Own L0,H,F⟩ (hp F H ho) F H ⟨PH.ext.refl F,hin,Kw.refl _ _,hd,ho,fun k hk => .inr hk⟩
def outW (o : D.Outcome) : Prop := (IntKind.i64.wrap o.End = o.End ∧ IntKind.i32.wrap o.Val = o.Val ∧ IntKind.i64.wrap o.Steps = o.Steps) ∧ o.Mem.length ≤ 4096 ∧ lensE o.Calls
abbrev TrO (P : Program) (f : FuncId) (args : Array Value) (D0 : List Dt) (L0 : List Res) (o : D.Outcome) : Prop := Tr P f args D0 L0 (fun c : Value × Value × List EV => .agg #[.int .i64 o.End,.int .i32 o.Val,c.1,c.2.1,.int .i64 o.Steps]) (fun _ => [dpr (outW o)]) (fun B c => [gl B (rI .i32) 21 c.1 o.Mem,evr B c.2.1 c.2.2 o.Calls])
theorem TrO.frz {a : Array Value} {o : D.Outcome} (h : TrO P f a D0 L0 o) : Tr P f a D0 L0 (fun c : Value × Value => vOutcome o c) (fun c => [da rOutcome (vOutcome o c) o]) (fun _ _ => []) := fun F H hin hd ho =>
 (h F H hin hd ho).mono (by
   rintro v H' ⟨c,F',rfl,h2⟩
   refine ⟨(c.1,c.2.1),?_⟩
   have h3 := h2 H.size (Nat.le_refl _)
   obtain ⟨⟨w1,w2,w3⟩,hm,hl⟩ : outW o := h3.hd.1
   obtain ⟨G,h4⟩ := h3.freeze (N := 1073741824) k0 (by omega)
   obtain ⟨K,h5⟩ := hp_efz h4 k0 hl
   refine ⟨K,rfl,fun B _ => h5.sub (dc (rOutcome.M (m := o) (c := (c.1,c.2.1)) d1 d0 (wp w1) (wp w2) (wp w3)) dn) kn⟩)
end
section
variable {P : Program} {Γ : List Dt} {L M M2 N : List Res} {e : Env} {X : Cx} {w0 : World} {fn : Func} {m : Nat}
theorem jrcE {a b : D.Outcome} {p g : Nat} {ty T : TypeId} {mv cv : Value} {qs : List EV} (hr : fn.results = #[.cell p ty]) (hv : lk e p = some (.pointer (some ⟨g,0,none⟩))) (hb : Tk L (bx g T [.int .i64 b.End,.int .i32 b.Val,mv,cv,.int .i64 b.Steps]) N) (hA : ∃ d,P.underlying ty = some d ∧ (match d with | .struct _ | .array _ _ => true | _ => false) = true) (hS : Sz P ty 5)
   (he : a = b) (hw : outW b) (hk : Tk L (gl X.n (rI .i32) 21 mv b.Mem) M) (hk2 : Tk M (evr X.n cv qs b.Calls) M2) : QH ⟨m,[]⟩ w0 (RQ2 P fn w0 X (fun c : Value × Value × List EV => .agg #[.int .i64 a.End,.int .i32 a.Val,c.1,c.2.1,.int .i64 a.Steps]) (fun _ => [dpr (outW a)]) (fun B c => [gl B (rI .i32) 21 c.1 a.Mem,evr B c.2.1 c.2.2 a.Calls])) X Γ L e .ret := by
 subst he
 exact jrc hr hv hb hA hS (mv,cv,qs) rfl (dc (npr hw) dn) (fun _ hB => klc rfl hB hk (klE hB hk2 kn))
end
theorem outw {en va st : Int} {me : List Int} {cl : List D.Event} (h1 : IntKind.i64.wrap en = en) (h2 : IntKind.i32.wrap va = va) (h3 : IntKind.i64.wrap st = st) (h4 : me.length ≤ 4096) (h5 : cl.length < 1073741824) (h6 : ∀ c ∈ cl,c.Args.length ≤ 4) : outW ⟨en,va,me,cl,st⟩ :=
 ⟨⟨h1,h2,h3⟩,h4,h5,fun c hc => by have := h6 c hc; omega⟩
end Go.Proofs.YtmfkkodnghambaaGreat
