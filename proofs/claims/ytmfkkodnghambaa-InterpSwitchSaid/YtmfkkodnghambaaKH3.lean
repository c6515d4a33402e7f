/- Lemmas that the claim is made of. Conditions: each lemma names its own. -/
import Derived.Test.YtmfkkodnghambaaKH2
import Derived.Shelf.Lay
import Derived.Shelf.Sort.Plain
import Derived.Shelf.Slices.In.SortNone
import Derived.Shelf.Slices.CompactI
import Derived.Shelf.Slices.Reverse
import Derived.Sort.OwnSortedInts
import Derived.Test.YtmfkkodnghambaaRows
set_option linter.unusedSectionVars false
set_option linter.unusedSimpArgs false
set_option linter.unusedVariables false
namespace Go.JE
variable {P : Program} {D D0 D1 : List Dt} {L M N Ls L0 Rs : List Res} {e : Env} {X : Cx} {n : Fs} {w0 : World} {Q : Exit → Act → World → Prop}
def putf (off : Nat) (us : List Value) (f : Nat → Value) : Nat → Value := fun j => if off ≤ j ∧ j < off + us.length then us.getD (j - off) undef else f j
section
variable {α : Type} [Inhabited α] {r : Rp α} {E T : TypeId} {F : PH} {H : Heap} {B i off m o g : Nat} {v u : Value} {us : List Value} {l : List α} {a : α} {x y : Operand}
theorem ix_lt {l : List α} {i : Nat} (h : i < l.length) : ix l i = l[i] := by simp [ix,List.getD,h]
omit [Inhabited α] in
theorem setAt_getD {cs l : List Value} {o i : Nat} (ho : o + l.length ≤ cs.length) : (setAt cs o l).getD i undef = if o ≤ i ∧ i < o + l.length then l.getD (i - o) undef else cs.getD i undef := setAt_get l cs o i ho
theorem Gl.putl (h : Gl r E F H B v l) (hi : i < l.length) (hg : v.ownBlock = some g) (ho : off + us.length ≤ r.sz) (hok : ∀ f,r.ok F (ix l i) f → r.ok F a (putf off us f)) : Gl r E F (setl H g (i * r.sz + off) us) B v (l.set i a) := by
 obtain ⟨xs,h1,h2,h3⟩ := h
 have hb : (i + 1) * r.sz ≤ l.length * r.sz := Nat.mul_le_mul_right _ hi
 rw [Nat.add_mul] at hb
 have hlen : i * r.sz + off + us.length ≤ xs.length := by rw [h1.1]; omega
 refine ⟨setAt xs (i * r.sz + off) us,by rw [List.length_set]; exact Gr.setl us _ h1 ⟨g,hg⟩ g hg,h2,fun j hj => ?_⟩
 rw [List.length_set] at hj
 by_cases e1 : j = i
 · subst e1
   rw [List.getElem_set_self]
   refine r.ext (fun q hq => ?_) (hok _ (by rw [ix_lt hi]; exact h3 j hi))
   rw [setAt_getD hlen]
   unfold putf
   by_cases h5 : off ≤ q ∧ q < off + us.length
   · rw [if_pos h5,if_pos (by omega),show j * r.sz + q - (j * r.sz + off) = q - off by omega]
   · rw [if_neg h5,if_neg (by omega)]
 · rw [List.getElem_set_ne (Ne.symm e1)]
   refine r.ext (fun q hq => ?_) (h3 j hj)
   rw [setAt_getD hlen,if_neg]
   rintro ⟨h5,h6⟩
   rcases Nat.lt_or_gt_of_ne e1 with h7 | h7
   · have : (j + 1) * r.sz ≤ i * r.sz := Nat.mul_le_mul_right _ h7
     rw [Nat.add_mul] at this; omega
   · have : (i + 1) * r.sz ≤ j * r.sz := Nat.mul_le_mul_right _ h7
     rw [Nat.add_mul] at this; omega
omit [Inhabited α] in
theorem Gl.rw (h : Gl r E F H B v l) (hi : i < l.length) (hs : 0 < r.sz) : ∃ g c n,v = .slice (some ⟨g,0,none⟩) l.length c ∧ (∃ f,Rw H g E n f) ∧ l.length * r.sz ≤ n := by
 obtain ⟨xs,g1,g2,g3⟩ := h
 rcases g1.2 with ⟨h9,h8⟩ | ⟨g,cap,cur,h9,hb,hg,hc1,hc2,hc3,hc4⟩
 · omega
 · exact ⟨g,cap,cur.size,h9,⟨fun j => cur.getD j undef,cur,hg,rfl,fun j hj => by simp [Array.getD,hj]⟩,by rw [hc3]; exact Nat.mul_le_mul_right _ hc1⟩
theorem OpCh.storeP (h : Gl r E F H B v l) (hi : i < l.length) (hT : Sz P T 1) (hx : ev e x = some (.pointer (some ⟨vblk v,o,none⟩))) (hoo : o = voff v + i * r.sz + off) (hy : ev e y = some u) (h1 : u.oneCell' = true) (ho : off < r.sz) (hok : ∀ f,r.ok F (ix l i) f → r.ok F a (putf off [u] f)) :
   OpCh P e (.store T x y) H (fun _ H' => ∃ g,v.ownBlock = some g ∧ Tw g H H' ∧ Gl r E F H' B v (l.set i a)) := by
 obtain ⟨g,c,n,rfl,⟨f,hr⟩,hn⟩ := h.rw hi (by omega)
 have hb : (i + 1) * r.sz ≤ l.length * r.sz := Nat.mul_le_mul_right _ hi
 rw [Nat.add_mul] at hb
 intro ρ oo w hoo' hev hw
 have hx' : ev e x = some (.pointer (some ⟨g,i * r.sz + off,none⟩)) := by rw [hx,hoo]; simp [vblk,voff]
 obtain ⟨v',w',k1,k2,k3,k4,k5⟩ := OpCh.store (P := P) hT hx' hy h1 hr (by omega) ρ oo w hoo' hev hw
 refine ⟨v',w',k1,k2,k3,k4,g,rfl,by rw [k5]; exact ⟨size_setc,fun k hk => setc_other hk⟩,?_⟩
 rw [k5]
 exact h.putl (us := [u]) hi rfl (by simp only [List.length_cons,List.length_nil]; omega) hok
theorem Gl.cellP (h : Gl r E F H B v l) (hi : i < l.length) (ho : off < r.sz) : ∃ f,r.ok F (ix l i) f ∧ hc H (vblk v) (voff v + i * r.sz + off) = some (f off) := by
 obtain ⟨xs,g1,g2,g3⟩ := h
 have hb : (i + 1) * r.sz ≤ l.length * r.sz := Nat.mul_le_mul_right _ hi
 rw [Nat.add_mul] at hb
 refine ⟨fun j => xs.getD (i * r.sz + j) undef,by rw [ix_lt hi]; exact g3 i hi,?_⟩
 rcases g1.2 with ⟨h9,h8⟩ | ⟨g,cap,cur,rfl,hb',hg,hc1,hc2,hc3,hc4⟩
 · omega
 · have h5 : i * r.sz + off < cur.size := by
     rw [hc3]
     have : l.length * r.sz ≤ cap * r.sz := Nat.mul_le_mul_right _ hc1
     omega
   have h6 : i * r.sz + off < l.length * r.sz := by omega
   simp only [vblk,voff,Nat.zero_add,hc,hg]
   rw [← hc4]
   simp [List.getD,h5,h6,List.getElem?_take]
section
variable {ops : Array Oper} {d : Nat} {ty : TypeId} {pos : String} {af : Array Edge} {rest : List Oper}
def PO (D : List Dt) (L : List Res) (r : Rp α) (a : α) (off : Nat) (us : List Value) (b : α) : Prop := ∀ F H,InH F H → AllD F D → Ok F H L → ∀ f,r.ok F a f → r.ok F b (putf off us f)
theorem jsp (hk : Tk L (gl B r E v l) M) (hi : i < l.length) (hT : Sz P T 1) (hx : ev e x = some (.pointer (some ⟨vblk v,o,none⟩))) (hoo : o = voff v + i * r.sz + off) (hy : ev e y = some u) (h1 : u.oneCell' = true) (hok : PO D L r (ix l i) off [u] a)
   (k : LH P n w0 ops Q X D (gl B r E v (l.set i a) :: M) e rest) (ho : off < r.sz := by exact Nat.le_of_ble_eq_true rfl) : LH P n w0 ops Q X D L e (⟨none,.store T x y,ty,pos,af,none⟩ :: rest) := fun F H hp =>
 LF.chg0 (OpCh.storeP (hp.at hk).1 hi hT hx hoo hy h1 ho (hok F H hp.hin hp.hd hp.ok)) (by
   rintro _ H' ⟨g,hg,t,hb⟩
   exact k F H' (hp.set (R' := gl B r E v (l.set i a)) hk ⟨Nat.le_of_eq t.1.symm,fun k _ h2 => t.2 k (fun e1 => h2 (e1 ▸ hg))⟩ ⟨hb,by rw [t.1]; exact hp1 hp hk⟩ (fun k h => .inr h)))
theorem jgp {w : Value} (hk : Tk L (gl B r E v l) M) (hi : i < l.length) (hT : One P T) (hx : ev e x = some (.pointer (some ⟨vblk v,o,none⟩))) (hoo : o = voff v + i * r.sz + off) (hl : ∀ F f,r.ok F (ix l i) f → f off = w) (ho : off < r.sz := by exact Nat.le_of_ble_eq_true rfl) : OH P D L e (.load T x) w := fun F H _ _ h => by
 obtain ⟨f,h1,h2⟩ := (hk.ok h).1.1.cellP hi ho
 rw [hl F f h1] at h2
 exact OpOk.load hT hx rfl (by rw [hoo]; exact h2)
end
end
end Go.JE
namespace Go.JE
variable {P : Program} {D D0 : List Dt} {L M : List Res} {e : Env} {X : Cx} {n : Fs} {w0 : World} {Q : Exit → Act → World → Prop}
section
variable {ops : Array Oper} {op : Op} {d : Nat} {ty : TypeId} {pos : String} {af : Array Edge} {rest : List Oper} {f : FuncId} {g : Operand} {xs : List Operand} {vs cs : List Value} {ts : Array TypeId}
theorem jgk {j t : Nat} {want : Bool} {u : Value} (hj : (ops[j]?).bind (·.dst) = some t) (hu : lk e t = some u) (hB : Gd u want true) (h : LH P n w0 ops Q X D L e (⟨some d,op,ty,pos,af,none⟩ :: rest)) (ht : Nat.blt t n.sz = true := by rfl) : LH P n w0 ops Q X D L e (⟨some d,op,ty,pos,af,some (j,want)⟩ :: rest) := fun F H hp a w hf hw => by
 have hwt := wanted_gd (o := ⟨some d,op,ty,pos,af,some (j,want)⟩) rfl hj ht hf hu hB
 have h1 := h F H hp a w hf hw
 unfold wpList at h1 ⊢
 rw [if_pos hwt]
 rw [if_pos (by simp [Region.wanted])] at h1
 exact h1
instance : Inhabited Value := ⟨undef⟩
end
section
open Go
variable {fn : Func} {m : Nat} {ι : Type} {val : ι → Value} {dr : ι → List Dt} {lr : Nat → ι → List Res}
end
end Go.JE
namespace Go.JE
open Go
variable {P : Program} {D D0 : List Dt} {L M : List Res} {e : Env} {X : Cx} {n : Fs} {w0 : World} {Q : Exit → Act → World → Prop}
section
variable {α : Type} {r : Rp α} {F : PH} {H : Heap} {x y : Operand} {T E : TypeId} {z : Value} {bytes B : Nat} {w2 : Value} {l m : List α} {N N2 : Nat} {ad : Addr}
end
section
variable {α : Type} {r : Rp α} {ops : Array Oper} {d : Nat} {ty : TypeId} {pos : String} {af : Array Edge} {rest : List Oper} {x y hx' mx' : Operand} {T E : TypeId} {z v w2 : Value} {bytes : Nat} {l m : List α} {k k' : IntKind} {I J : Int} {hi N : Nat}
end
section
variable {α : Type} {r : Rp α} {ops : Array Oper} {d : Nat} {ty : TypeId} {pos : String} {af : Array Edge} {rest : List Oper} {x y : Operand} {T E : TypeId} {z v w2 : Value} {bytes : Nat} {l m : List α} {N : Nat}
end
section
variable {α : Type} {r : Rp α} {x hx' mx' : Operand} {T E : TypeId} {v : Value} {l : List α} {k k' : IntKind} {I J : Int} {hi N : Nat}
end
end Go.JE
namespace Go.JE
open Go
abbrev Ris (l : List Int) : Prop := l.Pairwise (· < ·)
def zIn (x : Int) : List Int → List Int
 | [] => [x]
 | y :: l => if x < y then x :: y :: l else if x = y then y :: l else y :: zIn x l
theorem zIn_mem {x y : Int} : ∀ {l : List Int},y ∈ zIn x l ↔ y = x ∨ y ∈ l
 | [] => by simp [zIn]
 | z :: l => by
   rw [zIn]; split
   · simp
   · split
     · rename_i h; subst h; simp
     · rw [List.mem_cons,zIn_mem,List.mem_cons]
       constructor
       · rintro (h | h | h) <;> simp [h]
       · rintro (h | h | h) <;> simp [h]
theorem zIn_ris {x : Int} : ∀ {l : List Int},Ris l → Ris (zIn x l)
 | [],_ => by simp [zIn,Ris]
 | z :: l,h => by
   rw [Ris,List.pairwise_cons] at h
   rw [zIn]; split
   · rename_i h1
     refine List.pairwise_cons.2 ⟨fun y hy => ?_,List.pairwise_cons.2 h⟩
     rcases List.mem_cons.1 hy with rfl | hy
     · exact h1
     · have := h.1 y hy; omega
   · split
     · exact List.pairwise_cons.2 h
     · refine List.pairwise_cons.2 ⟨fun y hy => ?_,zIn_ris h.2⟩
       rcases zIn_mem.1 hy with rfl | hy
       · omega
       · exact h.1 y hy
theorem ris_ext : ∀ {a b : List Int},Ris a → Ris b → (∀ x,x ∈ a ↔ x ∈ b) → a = b
 | [],[],_,_,_ => rfl
 | [],y :: b,_,_,h => absurd ((h y).2 (by simp)) (by simp)
 | x :: a,[],_,_,h => absurd ((h x).1 (by simp)) (by simp)
 | x :: a,y :: b,ha,hb,h => by
   rw [Ris,List.pairwise_cons] at ha hb
   have e : x = y := by
     rcases List.mem_cons.1 ((h x).1 (by simp)) with e | e
     · exact e
     · rcases List.mem_cons.1 ((h y).2 (by simp)) with e2 | e2
       · exact e2.symm
       · have := hb.1 x e; have := ha.1 y e2; omega
   subst e
   rw [ris_ext ha.2 hb.2 fun z => ?_]
   constructor
   · intro hz
     rcases List.mem_cons.1 ((h z).1 (by simp [hz])) with e | e
     · subst e; have := ha.1 z hz; omega
     · exact e
   · intro hz
     rcases List.mem_cons.1 ((h z).2 (by simp [hz])) with e | e
     · subst e; have := hb.1 z hz; omega
     · exact e
theorem Ris.nodup {l : List Int} (h : Ris l) : l.Nodup := List.Pairwise.imp (fun h => by omega) h
structure Sx (L : List (Int × Value)) (S : List Int) : Prop where
 ris : Ris S
 mem : ∀ x,x ∈ L.map (·.1) ↔ x ∈ S
 tru : ∀ p ∈ L,p.2 = .bool true
theorem Sx.nil : Sx [] [] := ⟨by simp [Ris],by simp,by simp⟩
theorem upM_tru {k : Int} : ∀ {L : List (Int × Value)},(∀ p ∈ L,p.2 = .bool true) → ∀ p ∈ upM L k (.bool true),p.2 = .bool true
 | [],_,p,h => by simp [upM] at h; subst h; rfl
 | q :: r,hq,p,h => by
   rw [upM] at h; split at h
   · rcases List.mem_cons.1 h with rfl | h
     · rfl
     · exact hq p (by simp [h])
   · rcases List.mem_cons.1 h with rfl | h
     · exact hq _ (by simp)
     · exact upM_tru (fun p hp => hq p (by simp [hp])) p h
section
variable {L L' : List (Int × Value)} {S : List Int} {k : Int}
theorem Sx.up (h : Sx L S) : Sx (upM L k (.bool true)) (zIn k S) where
 ris := zIn_ris h.ris
 mem := fun x => by
   rw [upM_keys,zIn_mem,← h.mem x]
   split
   · rename_i h1
     exact ⟨.inr,fun h2 => h2.elim (fun e => e ▸ h1) id⟩
   · simp [or_comm]
 tru := upM_tru h.tru
theorem Sx.lk (h : Sx L S) : (lkM L k).getD (.bool false) = .bool (decide (k ∈ S)) := by
 cases hl : lkM L k with
 | none =>
   have := lkM_none.1 hl
   rw [h.mem] at this
   simp [this]
 | some v =>
   unfold lkM at hl
   rw [Option.map_eq_some_iff] at hl
   obtain ⟨p,h1,rfl⟩ := hl
   have hm := List.mem_of_find?_eq_some h1
   have he := List.find?_some h1
   have : k ∈ S := (h.mem k).1 (List.mem_map.2 ⟨p,hm,by simpa using he⟩)
   rw [h.tru p hm]; simp [this]
theorem Sx.len (h : Sx L S) (hn : (L.map (·.1)).Nodup) : L.length = S.length := by
 have h1 : (L.map (·.1)).Perm S := (List.perm_ext_iff_of_nodup hn h.ris.nodup).2 h.mem
 have := h1.length_eq
 simpa using this
end
variable {P : Program} {D D0 : List Dt} {L M N : List Res} {e : Env} {X : Cx} {n : Fs} {w0 : World} {Q : Exit → Act → World → Prop}
section
variable {ops : Array Oper} {op : Op} {d : Nat} {ty : TypeId} {pos : String} {af : Array Edge} {rest : List Oper} {T T' K E : TypeId} {x y z : Operand} {g B : Nat} {S : List Int} {k : Int} {v u : Value}
def sit (r : Nat) (v : Value) (S vis : List Int) : Res where
 sat F H := (∃ g es c L,v = .map (some g) ∧ F g = some (.map es c) ∧ ImAt es c L ∧ Sx L S ∧ r ≠ g ∧ r < H.size ∧ ∀ K : Heap,K[g]? = some (.map es c) → K[r]? = H[r]? → It K r g L vis) ∧ F r = none
 own k := k = r
 lt := fun h e => by obtain ⟨⟨g,es,c,L,_,_,_,_,_,h1,_⟩,_⟩ := h; rw [e]; exact h1
 no := fun h e => e ▸ h.2
 st := fun hl hs h1 h2 h => by
   obtain ⟨⟨g,es,c,L,a1,a2,a3,a4,a5,a6,a7⟩,a8⟩ := h
   exact ⟨⟨g,es,c,L,a1,hl _ _ a2,a3,a4,a5,Nat.lt_of_lt_of_le a6 hs,fun K hg hr => a7 K hg (hr.trans (h2 r rfl))⟩,h1 r rfl⟩
theorem sit.it {F : PH} {H : Heap} {r : Nat} {vis : List Int} (h : (sit r v S vis).sat F H) (hin : InH F H) : ∃ g L,v = .map (some g) ∧ It H r g L vis ∧ Sx L S ∧ r ≠ g := by
 obtain ⟨⟨g,es,c,L,a1,a2,a3,a4,a5,a6,a7⟩,a8⟩ := h
 exact ⟨g,L,a1,a7 H (hin _ _ a2) rfl,a4,a5⟩
end
section
variable {α : Type} {r : Rp α} {T To : TypeId} {B i : Nat} {vs : List Value} {ls : List (List α)} {l' : List α} {ops : Array Oper} {rest : List Oper} {c : Code} {z : Exit}
end
end Go.JE
namespace Go.Proofs.Ytmfkkodnghambaa
open Go.Shelf Go.JE
shelf_lay Lays.n189 Nm 189 at Try as Try.lays189
open Go.Sort Go.RowKit in
theorem Try.sort_int (blk off cap : Nat) (zs : List Int) (w : World) (hH : Holds (Value.int .i64) w blk off zs.toArray) (hblk : blk < w.heap.size) (hsz : zs.length < 4611686018427387904) :
   Calls Try.prog 78 #[.slice (some ⟨blk,off,none⟩) zs.length cap] w fun e w' =>
     e = .returned (.tuple #[]) ∧ ∃ n os,w' = grow (putRow (Value.int .i64) (Sort.ahead w n) blk off (zs.mergeSort fun x y => decide (x ≤ y)).toArray) os := Any.slices_Sort_int Try.lays189 blk off cap zs w hH hblk hsz
theorem Try.sort_none (p : Option Addr) (cap : Nat) (w : World) :
   Calls Try.prog 78 #[.slice p 0 cap] w fun e w' => e = .returned (.tuple #[]) ∧ w' = w := Any.slices_Sort_int_none Try.lays189 p cap w
def sortM (l : List Int) : List Int := l.mergeSort fun x y => decide (x ≤ y)
open Go.Sort Go.RowKit in
theorem sort_ct {F : PH} {H : Heap} (hin : InH F H) {B : Nat} {v : Value} {l : List Int} (p : Gl (rI .i64) 3 F H B v l) (hl : l.length < 1073741824) :
   Ct Try.prog 78 #[v] H (fun u H' => u = .tuple #[] ∧ Kw (own1 v) H H' ∧ Gl (rI .i64) 3 F H' B v (sortM l)) := by
 obtain ⟨xs,o1,o2,o3⟩ := p
 have hlen : (sortM l).length = l.length := List.length_mergeSort l
 intro w hw
 rcases o1.2 with ⟨rfl,e2⟩ | ⟨g,cap,cur,rfl,hb,hg,hc1,hc2,hc3,hc4⟩
 · refine (Try.sort_none none 0 w).mono ?_
   rintro e w' ⟨rfl,rfl⟩
   have hn : l = [] := List.eq_nil_of_length_eq_zero e2
   subst hn
   refine ⟨_,rfl,rfl,rfl,rfl,rfl,by rw [hw]; exact Kw.refl _ _,?_⟩
   rw [show sortM [] = [] from by simp [sortM]]; exact Gl.nil _ _ _
 · have hgl : g < w.heap.size := by rw [hw]; exact (Array.getElem?_eq_some_iff.1 hg).1
   have hxl : xs.length = l.length := by have := o1.1; rw [show (rI .i64).sz = 1 from rfl,Nat.mul_one] at this; exact this
   have hxs : xs = l.map (Value.int .i64) := by
     apply List.ext_getElem (by rw [hxl,List.length_map])
     intro i h1 h2
     rw [List.getElem_map]
     have : xs.getD (i * 1 + 0) undef = Value.int .i64 l[i] := (o3 i (by omega)).1
     rw [Nat.mul_one,Nat.add_zero,List.getD_eq_getElem?_getD,List.getElem?_eq_getElem h1] at this
     exact this
   have ht : cur.toList.take l.length = l.map (Value.int .i64) := by
     rw [← hxs,← hc4,show (rI .i64).sz = 1 from rfl,Nat.mul_one]
   have hH := holds_of_blockI (w := w) (g := g) (cur := cur) (e := 3) (ss := l) (by rw [hw]; exact hg) ht
   refine (Try.sort_int g 0 cap l w hH hgl (by omega)).mono ?_
   rintro e w' ⟨rfl,n,os,rfl⟩
   have hgb := grownBy_sortedI (w := w) (g := g) (n := n) (os := os) (sortM l).toArray
   have hro := ownsRow_sortedI (w := w) (base := B) (g := g) (cap := cap) (n := n) (e := 3) (os := os) (cur := cur) (ss := l) (ts := sortM l) hlen hb (by rw [hw]; exact hg) hc1 hc2 hc3
   refine ⟨_,rfl,hgb.os,hgb.tape,hgb.output,rfl,⟨by rw [← hw]; exact hgb.size,fun k hk hn => ?_⟩,?_⟩
   · rw [← hw] at hk ⊢
     exact hgb.block k hk (fun e1 => hn (show some g = some k from e1.symm))
   · refine ⟨(sortM l).map (Value.int .i64),?_,o2,fun i hi => ?_⟩
     · rw [hlen]; exact Gr.owns.1 hro
     · have hm : (sortM l)[i] ∈ l := (List.mergeSort_perm l _).subset (List.getElem_mem hi)
       obtain ⟨j,hj,e1⟩ := List.getElem_of_mem hm
       refine ⟨?_,?_⟩
       · show ((sortM l).map (Value.int .i64)).getD (i * 1 + 0) undef = _
         rw [Nat.mul_one,Nat.add_zero,List.getD_eq_getElem?_getD,List.getElem?_map,List.getElem?_eq_getElem hi]; rfl
       · rw [← e1]; exact (o3 j hj).2
open Go.JE in
theorem sortT {B : Nat} {v : Value} {l : List Int} (hl : l.length < 1073741824) : Tr Try.prog 78 #[v] [] [gl B (rI .i64) 3 v l] (fun _ : Unit => .tuple #[]) (fun _ => []) (fun _ _ => [gl B (rI .i64) 3 v (sortM l)]) := fun F H hin _ ho =>
 (sort_ct hin ho.1.1 hl).mono fun u H' ⟨h1,h2,h3⟩ => ⟨(),F,h1,fun B' _ => ⟨PH.ext.refl F,hin.kw h2 (fun k hk => ho.1.1.no k hk),⟨h2.1,fun k hk hn => h2.2 k hk (fun h => hn (.inl h))⟩,trivial,⟨⟨h3,Nat.le_trans ho.1.2 h2.1⟩,fun _ _ => id,trivial⟩,fun k hk => .inr hk⟩⟩
theorem sortM_mem {l : List Int} {x : Int} : x ∈ sortM l ↔ x ∈ l := (List.mergeSort_perm l _).mem_iff
theorem sortM_le (l : List Int) : (sortM l).Pairwise (· ≤ ·) := by
 have h := List.pairwise_mergeSort (le := fun x y : Int => decide (x ≤ y)) (fun a b c h1 h2 => by simp at *; omega) (fun a b => by simp; omega) l
 exact h.imp (fun h => by simpa using h)
shelf_lay Lays2.n20 Nm2 20 at Try as Try.lays20
open Go.Sort Go.RowKit in
theorem Try.comp_int (blk off cap : Nat) (zs : List Int) (w : World) (hH : Holds (Value.int .i64) w blk off zs.toArray) (hsz : zs.length ≤ 9223372036854775807) (hcap : zs.length ≤ cap) :
   Calls Try.prog 79 #[.slice (some ⟨blk,off,none⟩) zs.length cap] w fun e w' => e = .returned (.slice (some ⟨blk,off,none⟩) (Lib.compact zs).length cap) ∧ ∃ q,w' = putRow (Value.int .i64) (Sort.ahead w q) blk off (Lib.compact zs ++ List.replicate (zs.length - (Lib.compact zs).length) 0).toArray := Any.slices_Compact_int Try.lays20 blk off cap zs w hH hsz hcap
theorem Try.comp_none (a : Option Addr) (cap : Nat) (w : World) : Calls Try.prog 79 #[.slice a 0 cap] w fun e w' => e = .returned (.slice a 0 cap) ∧ w' = w := Any.slices_Compact_int_empty Try.lays20 a cap w
theorem comp_len (l : List Int) : (Lib.compact l).length ≤ l.length := by
 unfold Lib.compact Lib.compactUpTo
 rw [List.length_map]
 exact Nat.le_trans (List.length_filter_le _ _) (by simp)
theorem comp_sub {l : List Int} {x : Int} (h : x ∈ Lib.compact l) : x ∈ l := by
 unfold Lib.compact Lib.compactUpTo at h
 obtain ⟨j,hj,rfl⟩ := List.mem_map.1 h
 have := List.mem_range.1 (List.mem_filter.1 hj).1
 simp [this]
open Go.Sort Go.RowKit in
theorem comp_ct {F : PH} {H : Heap} (hin : InH F H) {B : Nat} {v : Value} {l : List Int} (p : Gl (rI .i64) 3 F H B v l) (hl : l.length < 1073741824) :
   Ct Try.prog 79 #[v] H (fun u H' => u.ownBlock = v.ownBlock ∧ Kw (own1 v) H H' ∧ Gl (rI .i64) 3 F H' B u (Lib.compact l)) := by
 obtain ⟨xs,o1,o2,o3⟩ := p
 have hlen := comp_len l
 intro w hw
 rcases o1.2 with ⟨rfl,e2⟩ | ⟨g,cap,cur,rfl,hb,hg,hc1,hc2,hc3,hc4⟩
 · refine (Try.comp_none none 0 w).mono ?_
   rintro e w' ⟨rfl,rfl⟩
   have hn : l = [] := List.eq_nil_of_length_eq_zero e2
   subst hn
   refine ⟨_,rfl,rfl,rfl,rfl,rfl,by rw [hw]; exact Kw.refl _ _,?_⟩
   rw [show Lib.compact ([] : List Int) = [] from by simp [Lib.compact,Lib.compactUpTo]]; exact Gl.nil _ _ _
 · have hgl : g < w.heap.size := by rw [hw]; exact (Array.getElem?_eq_some_iff.1 hg).1
   have hxl : xs.length = l.length := by have := o1.1; rw [show (rI .i64).sz = 1 from rfl,Nat.mul_one] at this; exact this
   have hxs : xs = l.map (Value.int .i64) := by
     apply List.ext_getElem (by rw [hxl,List.length_map])
     intro i h1 h2
     rw [List.getElem_map]
     have : xs.getD (i * 1 + 0) undef = Value.int .i64 l[i] := (o3 i (by omega)).1
     rw [Nat.mul_one,Nat.add_zero,List.getD_eq_getElem?_getD,List.getElem?_eq_getElem h1] at this
     exact this
   have ht : cur.toList.take l.length = l.map (Value.int .i64) := by
     rw [← hxs,← hc4,show (rI .i64).sz = 1 from rfl,Nat.mul_one]
   have hH := holds_of_blockI (w := w) (g := g) (cur := cur) (e := 3) (ss := l) (by rw [hw]; exact hg) ht
   refine (Try.comp_int g 0 cap l w hH (by omega) hc1).mono ?_
   rintro e w' ⟨rfl,n,rfl⟩
   have htl : (Lib.compact l ++ List.replicate (l.length - (Lib.compact l).length) 0).length = l.length := by simp; omega
   have e9 : ∀ W : World,grow W #[] = W := fun W => by cases W; simp [grow]
   generalize hts : Lib.compact l ++ List.replicate (l.length - (Lib.compact l).length) 0 = ts at htl ⊢
   rw [← e9 (putRow _ _ _ _ _)]
   have hgb := grownBy_sortedI (w := w) (g := g) (n := n) (os := #[]) ts.toArray
   have hro := ownsRow_sortedI (w := w) (base := B) (g := g) (cap := cap) (n := n) (e := 3) (os := #[]) (cur := cur) (ss := l) (ts := ts) htl hb (by rw [hw]; exact hg) hc1 hc2 hc3
   refine ⟨_,rfl,hgb.os,hgb.tape,hgb.output,rfl,⟨by rw [← hw]; exact hgb.size,fun k hk hn => ?_⟩,?_⟩
   · rw [← hw] at hk ⊢
     exact hgb.block k hk (fun e1 => hn (show some g = some k from e1.symm))
   · refine ⟨(Lib.compact l).map (Value.int .i64),?_,o2,fun i hi => ?_⟩
     · obtain ⟨_,h2⟩ := Gr.owns.1 hro
       rcases h2 with ⟨h2,_⟩ | ⟨g2,cap2,cur2,e1,f1,f2,f3,f4,f5,f6⟩
       · cases h2
       · injection e1 with e1 _ e2
         injection e1 with e1
         injection e1 with e1
         subst e1; subst e2
         refine ⟨by simp [show (rI .i64).sz = 1 from rfl],.inr ⟨g,cap,cur2,rfl,f1,f2,by omega,f4,f5,?_⟩⟩
         rw [show (rI .i64).sz = 1 from rfl,Nat.mul_one]
         rw [Nat.mul_one] at f6
         have h7 : cur2.toList.take (Lib.compact l).length = (cur2.toList.take l.length).take (Lib.compact l).length := by rw [List.take_take,Nat.min_eq_left hlen]
         rw [h7,f6,← hts,List.map_append,List.take_left' (by simp)]
     · have hm : (Lib.compact l)[i] ∈ l := comp_sub (List.getElem_mem hi)
       obtain ⟨j,hj,e1⟩ := List.getElem_of_mem hm
       refine ⟨?_,?_⟩
       · show ((Lib.compact l).map (Value.int .i64)).getD (i * 1 + 0) undef = _
         rw [Nat.mul_one,Nat.add_zero,List.getD_eq_getElem?_getD,List.getElem?_map,List.getElem?_eq_getElem hi]; rfl
       · rw [← e1]; exact (o3 j hj).2
open Go.JE in
theorem compT {B : Nat} {v : Value} {l : List Int} (hl : l.length < 1073741824) : Tr Try.prog 79 #[v] [] [gl B (rI .i64) 3 v l] (fun u : Value => u) (fun _ => []) (fun _ u => [gl B (rI .i64) 3 u (Lib.compact l)]) := fun F H hin _ ho =>
 (comp_ct hin ho.1.1 hl).mono fun u H' ⟨h0,h2,h3⟩ => ⟨u,F,rfl,fun B' _ => ⟨PH.ext.refl F,hin.kw h2 (fun k hk => ho.1.1.no k hk),⟨h2.1,fun k hk hn => h2.2 k hk (fun h => hn (.inl h))⟩,trivial,⟨⟨h3,Nat.le_trans ho.1.2 h2.1⟩,fun _ _ => id,trivial⟩,fun k hk => .inr (by rcases hk with hk | hk; (exact .inl (show v.ownBlock = some k from by rw [← h0]; exact hk)); exact .inr hk)⟩⟩
theorem comp_ris {l : List Int} (h : l.Pairwise (· ≤ ·)) : (Lib.compact l).Pairwise (· < ·) := by
 unfold Lib.compact Lib.compactUpTo
 rw [List.pairwise_map]
 have h1 : ((List.range l.length).filter (Lib.keeps l.toArray)).Pairwise (· < ·) := List.Pairwise.filter _ List.pairwise_lt_range
 rw [List.pairwise_iff_forall_sublist] at h1 ⊢
 intro a b hs
 have h2 := h1 hs
 have ha := List.mem_filter.1 (hs.subset (show a ∈ [a,b] by simp))
 have hb := List.mem_filter.1 (hs.subset (show b ∈ [a,b] by simp))
 have hbl := List.mem_range.1 hb.1
 have hk := hb.2
 unfold Lib.keeps at hk
 simp only [decide_eq_true_eq] at hk
 have h3 := List.pairwise_iff_getElem.1 h
 have e : ∀ j,(hj : j < l.length) → l.toArray[j]! = l[j] := fun j hj => by simp [hj]
 rw [e a (by omega),e b hbl]
 rw [e b hbl,e (b - 1) (by omega)] at hk
 have h4 := h3 (b - 1) b (by omega) hbl (by omega)
 rcases Nat.lt_or_ge a (b - 1) with h5 | h5
 · have := h3 a (b - 1) (by omega) (by omega) h5; omega
 · have : a = b - 1 := by omega
   subst this; omega
theorem comp_mem {l : List Int} {x : Int} : x ∈ Lib.compact l ↔ x ∈ l := by
 refine ⟨comp_sub,fun h => ?_⟩
 obtain ⟨j,hj,e⟩ := List.getElem_of_mem h
 have key : ∀ j,(hj : j < l.length) → l[j] = x → x ∈ Lib.compact l := by
   intro j
   induction j using Nat.strongRecOn with
   | ind j ih =>
     intro hj e
     by_cases hk : Lib.keeps l.toArray j = true
     · unfold Lib.compact Lib.compactUpTo
       exact List.mem_map.2 ⟨j,List.mem_filter.2 ⟨List.mem_range.2 hj,hk⟩,by simp [hj,e]⟩
     · unfold Lib.keeps at hk
       simp only [decide_eq_true_eq,not_or,ne_eq,Classical.not_not] at hk
       refine ih (j - 1) (by omega) (by omega) ?_
       have e2 : ∀ j,(hj : j < l.length) → l.toArray[j]! = l[j] := fun j hj => by simp [hj]
       rw [e2 j hj,e2 (j - 1) (by omega)] at hk
       rw [← hk.2]; exact e
 exact key j hj e
shelf_lay Lays.n112 Nm 112 at Try as Try.lays112
def revM (l : List Int) : List Int := l.reverse
open Go.Sort Go.RowKit in
theorem Try.rev_int (blk off cap : Nat) (zs : List Int) (w : World) (hH : Holds (Value.int .i64) w blk off zs.toArray) (hsz : zs.length ≤ 9223372036854775807) :
   Calls Try.prog 73 #[.slice (some ⟨blk,off,none⟩) zs.length cap] w fun e w' => e = .returned (.tuple #[]) ∧ ∃ n,w' = putRow (Value.int .i64) (Sort.ahead w n) blk off zs.reverse.toArray := Any.slices_Reverse_int Try.lays112 blk off cap zs w hH hsz
theorem Try.rev_none (p : Option Addr) (cap : Nat) (w : World) : Calls Try.prog 73 #[.slice p 0 cap] w fun e w' => e = .returned (.tuple #[]) ∧ w' = w := Any.slices_Reverse_int_empty Try.lays112 p cap w
open Go.Sort Go.RowKit in
theorem rev_ct {F : PH} {H : Heap} (hin : InH F H) {B : Nat} {v : Value} {l : List Int} (p : Gl (rI .i64) 3 F H B v l) (hl : l.length < 1073741824) :
   Ct Try.prog 73 #[v] H (fun u H' => u = .tuple #[] ∧ Kw (own1 v) H H' ∧ Gl (rI .i64) 3 F H' B v (revM l)) := by
 obtain ⟨xs,o1,o2,o3⟩ := p
 have hlen : (revM l).length = l.length := List.length_reverse
 intro w hw
 rcases o1.2 with ⟨rfl,e2⟩ | ⟨g,cap,cur,rfl,hb,hg,hc1,hc2,hc3,hc4⟩
 · refine (Try.rev_none none 0 w).mono ?_
   rintro e w' ⟨rfl,rfl⟩
   have hn : l = [] := List.eq_nil_of_length_eq_zero e2
   subst hn
   refine ⟨_,rfl,rfl,rfl,rfl,rfl,by rw [hw]; exact Kw.refl _ _,?_⟩
   rw [show revM [] = [] from by simp [revM]]; exact Gl.nil _ _ _
 · have hgl : g < w.heap.size := by rw [hw]; exact (Array.getElem?_eq_some_iff.1 hg).1
   have hxl : xs.length = l.length := by have := o1.1; rw [show (rI .i64).sz = 1 from rfl,Nat.mul_one] at this; exact this
   have hxs : xs = l.map (Value.int .i64) := by
     apply List.ext_getElem (by rw [hxl,List.length_map])
     intro i h1 h2
     rw [List.getElem_map]
     have : xs.getD (i * 1 + 0) undef = Value.int .i64 l[i] := (o3 i (by omega)).1
     rw [Nat.mul_one,Nat.add_zero,List.getD_eq_getElem?_getD,List.getElem?_eq_getElem h1] at this
     exact this
   have ht : cur.toList.take l.length = l.map (Value.int .i64) := by
     rw [← hxs,← hc4,show (rI .i64).sz = 1 from rfl,Nat.mul_one]
   have hH := holds_of_blockI (w := w) (g := g) (cur := cur) (e := 3) (ss := l) (by rw [hw]; exact hg) ht
   refine (Try.rev_int g 0 cap l w hH (by omega)).mono ?_
   rintro e w' ⟨rfl,n,rfl⟩
   have e9 : ∀ W : World,grow W #[] = W := fun W => by cases W; simp [grow]
   rw [← e9 (putRow _ _ _ _ _)]
   generalize (#[] : Array Obj) = os
   have hgb := grownBy_sortedI (w := w) (g := g) (n := n) (os := os) (revM l).toArray
   have hro := ownsRow_sortedI (w := w) (base := B) (g := g) (cap := cap) (n := n) (e := 3) (os := os) (cur := cur) (ss := l) (ts := revM l) hlen hb (by rw [hw]; exact hg) hc1 hc2 hc3
   refine ⟨_,rfl,hgb.os,hgb.tape,hgb.output,rfl,⟨by rw [← hw]; exact hgb.size,fun k hk hn => ?_⟩,?_⟩
   · rw [← hw] at hk ⊢
     exact hgb.block k hk (fun e1 => hn (show some g = some k from e1.symm))
   · refine ⟨(revM l).map (Value.int .i64),?_,o2,fun i hi => ?_⟩
     · rw [hlen]; exact Gr.owns.1 hro
     · have hm : (revM l)[i] ∈ l := List.mem_reverse.1 (List.getElem_mem hi)
       obtain ⟨j,hj,e1⟩ := List.getElem_of_mem hm
       refine ⟨?_,?_⟩
       · show ((revM l).map (Value.int .i64)).getD (i * 1 + 0) undef = _
         rw [Nat.mul_one,Nat.add_zero,List.getD_eq_getElem?_getD,List.getElem?_map,List.getElem?_eq_getElem hi]; rfl
       · rw [← e1]; exact (o3 j hj).2
open Go.JE in
theorem revT {B : Nat} {v : Value} {l : List Int} (hl : l.length < 1073741824) : Tr Try.prog 73 #[v] [] [gl B (rI .i64) 3 v l] (fun _ : Unit => .tuple #[]) (fun _ => []) (fun _ _ => [gl B (rI .i64) 3 v (revM l)]) := fun F H hin _ ho =>
 (rev_ct hin ho.1.1 hl).mono fun u H' ⟨h1,h2,h3⟩ => ⟨(),F,h1,fun B' _ => ⟨PH.ext.refl F,hin.kw h2 (fun k hk => ho.1.1.no k hk),⟨h2.1,fun k hk hn => h2.2 k hk (fun h => hn (.inl h))⟩,trivial,⟨⟨h3,Nat.le_trans ho.1.2 h2.1⟩,fun _ _ => id,trivial⟩,fun k hk => .inr hk⟩⟩
open Go.JE
structure D.Input where
 Args : List Int
 Mem : List Int
 Answers : List Int
 Steps : Int
deriving DecidableEq
instance : Inhabited D.Input := ⟨⟨[],[],[],0⟩⟩
def rInputN (N : Nat) : Rp D.Input := rM (rP (rLn N (rI .i32)) (rP (rLn N (rI .i32)) (rP (rLn N (rI .i32)) (rI .i64)))) (fun m => (m.Args,m.Mem,m.Answers,m.Steps))
abbrev rInput : Rp D.Input := rInputN 1073741824
theorem rInput.open {N : Nat} {F : PH} {v : Value} {m : D.Input} (h : (rInputN N).ra F v m) : ∃ c0 c1 c2,v = .agg #[c0,c1,c2,.int .i64 m.Steps] ∧ (rLn N (rI .i32)).rv F c0 m.Args ∧ (rLn N (rI .i32)).rv F c1 m.Mem ∧ (rLn N (rI .i32)).rv F c2 m.Answers := by
 obtain ⟨l,rfl,hl,h⟩ := h
 match l,hl with
 | [a0,a1,a2,a3],_ =>
   obtain ⟨h0,h1,h2,⟨h3,_⟩⟩ := h
   obtain rfl : a3 = _ := h3
   exact ⟨a0,a1,a2,rfl,h0,h1,h2⟩
theorem rInput.mk {N : Nat} {F : PH} {m : D.Input} {c0 : Value} {c1 : Value} {c2 : Value} (h0 : (rLn N (rI .i32)).rv F c0 m.Args) (h1 : (rLn N (rI .i32)).rv F c1 m.Mem) (h2 : (rLn N (rI .i32)).rv F c2 m.Answers) (w3 : IntKind.i64.wrap m.Steps = m.Steps) : (rInputN N).ra F (.agg #[c0,c1,c2,.int .i64 m.Steps]) m := ⟨[c0,c1,c2,.int .i64 m.Steps],rfl,rfl,⟨h0,h1,h2,⟨rfl,w3⟩⟩⟩
structure D.Event where
 Callee : Int
 Args : List Int
deriving DecidableEq
instance : Inhabited D.Event := ⟨⟨0,[]⟩⟩
def rEventN (N : Nat) : Rp D.Event := rM (rP (rI .i32) (rLn N (rI .i32))) (fun m => (m.Callee,m.Args))
abbrev rEvent : Rp D.Event := rEventN 1073741824
theorem rEvent.open {N : Nat} {F : PH} {v : Value} {m : D.Event} (h : (rEventN N).ra F v m) : ∃ c1,v = .agg #[.int .i32 m.Callee,c1] ∧ (rLn N (rI .i32)).rv F c1 m.Args := by
 obtain ⟨l,rfl,hl,h⟩ := h
 match l,hl with
 | [a0,a1],_ =>
   obtain ⟨⟨h0,_⟩,h1⟩ := h
   obtain rfl : a0 = _ := h0
   exact ⟨a1,rfl,h1⟩
theorem rEvent.mk {N : Nat} {F : PH} {m : D.Event} {c1 : Value} (h1 : (rLn N (rI .i32)).rv F c1 m.Args) (w0 : IntKind.i32.wrap m.Callee = m.Callee) : (rEventN N).ra F (.agg #[.int .i32 m.Callee,c1]) m := ⟨[.int .i32 m.Callee,c1],rfl,rfl,⟨⟨rfl,w0⟩,h1⟩⟩
structure D.Outcome where
 End : Int
 Val : Int
 Mem : List Int
 Calls : List D.Event
 Steps : Int
deriving DecidableEq
instance : Inhabited D.Outcome := ⟨⟨0,0,[],[],0⟩⟩
def rOutcomeN (N : Nat) : Rp D.Outcome := rM (rP (rI .i64) (rP (rI .i32) (rP (rLn N (rI .i32)) (rP (rLn N (rEventN N)) (rI .i64))))) (fun m => (m.End,m.Val,m.Mem,m.Calls,m.Steps))
abbrev rOutcome : Rp D.Outcome := rOutcomeN 1073741824
theorem rOutcome.open {N : Nat} {F : PH} {v : Value} {m : D.Outcome} (h : (rOutcomeN N).ra F v m) : ∃ c2 c3,v = .agg #[.int .i64 m.End,.int .i32 m.Val,c2,c3,.int .i64 m.Steps] ∧ (rLn N (rI .i32)).rv F c2 m.Mem ∧ (rLn N (rEventN N)).rv F c3 m.Calls := by
 obtain ⟨l,rfl,hl,h⟩ := h
 match l,hl with
 | [a0,a1,a2,a3,a4],_ =>
   obtain ⟨⟨h0,_⟩,⟨h1,_⟩,h2,h3,⟨h4,_⟩⟩ := h
   obtain rfl : a0 = _ := h0
   obtain rfl : a1 = _ := h1
   obtain rfl : a4 = _ := h4
   exact ⟨a2,a3,rfl,h2,h3⟩
theorem rOutcome.mk {N : Nat} {F : PH} {m : D.Outcome} {c2 : Value} {c3 : Value} (h2 : (rLn N (rI .i32)).rv F c2 m.Mem) (h3 : (rLn N (rEventN N)).rv F c3 m.Calls) (w0 : IntKind.i64.wrap m.End = m.End) (w1 : IntKind.i32.wrap m.Val = m.Val) (w4 : IntKind.i64.wrap m.Steps = m.Steps) : (rOutcomeN N).ra F (.agg #[.int .i64 m.End,.int .i32 m.Val,c2,c3,.int .i64 m.Steps]) m := ⟨[.int .i64 m.End,.int .i32 m.Val,c2,c3,.int .i64 m.Steps],rfl,rfl,⟨⟨rfl,w0⟩,⟨rfl,w1⟩,h2,h3,⟨rfl,w4⟩⟩⟩
structure D.In where
 From : Int
 Val : Int
deriving DecidableEq
instance : Inhabited D.In := ⟨⟨0,0⟩⟩
def rIn : Rp D.In := rM (rP (rI .i64) (rI .i64)) (fun m => (m.From,m.Val))
theorem rIn.at_Val {F : PH} {b o : Nat} {m : D.In} (h : At F rIn b o m) : At F (rI .i64) b (o + 1) m.Val := At.part 1 h (Nat.le_of_ble_eq_true rfl) (fun _ h => h.2)
theorem rIn.open {F : PH} {v : Value} {m : D.In} (h : rIn.ra F v m) : v = .agg #[.int .i64 m.From,.int .i64 m.Val] := by
 obtain ⟨l,rfl,hl,h⟩ := h
 match l,hl with
 | [a0,a1],_ =>
   obtain ⟨⟨h0,_⟩,⟨h1,_⟩⟩ := h
   obtain rfl : a0 = _ := h0
   obtain rfl : a1 = _ := h1
   exact rfl
structure D.Phi where
 Dst : Int
 In : List D.In
deriving DecidableEq
instance : Inhabited D.Phi := ⟨⟨0,[]⟩⟩
def rPhiN (N : Nat) : Rp D.Phi := rM (rP (rI .i64) (rLn N rIn)) (fun m => (m.Dst,m.In))
abbrev rPhi : Rp D.Phi := rPhiN 1073741824
theorem rPhi.any {N : Nat} {F : PH} {v : Value} {m : D.Phi} (h : (rPhiN N).ra F v m) : ∃ f,(rPhiN N).ok F m f := by obtain ⟨l,_,_,h⟩ := h; exact ⟨_,h⟩
theorem rPhi.w_Dst {N : Nat} {F : PH} {m : D.Phi} (h : ∃ f,(rPhiN N).ok F m f) : IntKind.i64.wrap m.Dst = m.Dst := by obtain ⟨_,h⟩ := h; exact (h.1).2
theorem rPhi.open {N : Nat} {F : PH} {v : Value} {m : D.Phi} (h : (rPhiN N).ra F v m) : ∃ c1,v = .agg #[.int .i64 m.Dst,c1] ∧ (rLn N rIn).rv F c1 m.In := by
 obtain ⟨l,rfl,hl,h⟩ := h
 match l,hl with
 | [a0,a1],_ =>
   obtain ⟨⟨h0,_⟩,h1⟩ := h
   obtain rfl : a0 = _ := h0
   exact ⟨a1,rfl,h1⟩
structure D.Ins where
 Op : Int
 Dst : Int
 Two : Int
 Args : List Int
 Imm : Int
deriving DecidableEq
instance : Inhabited D.Ins := ⟨⟨0,0,0,[],0⟩⟩
def rInsN (N : Nat) : Rp D.Ins := rM (rP (rI .i64) (rP (rI .i64) (rP (rI .i64) (rP (rLn N (rI .i64)) (rI .i32))))) (fun m => (m.Op,m.Dst,m.Two,m.Args,m.Imm))
abbrev rIns : Rp D.Ins := rInsN 1073741824
theorem rIns.any {N : Nat} {F : PH} {v : Value} {m : D.Ins} (h : (rInsN N).ra F v m) : ∃ f,(rInsN N).ok F m f := by obtain ⟨l,_,_,h⟩ := h; exact ⟨_,h⟩
theorem rIns.w_Dst {N : Nat} {F : PH} {m : D.Ins} (h : ∃ f,(rInsN N).ok F m f) : IntKind.i64.wrap m.Dst = m.Dst := by obtain ⟨_,h⟩ := h; exact (h.2.1).2
theorem rIns.w_Two {N : Nat} {F : PH} {m : D.Ins} (h : ∃ f,(rInsN N).ok F m f) : IntKind.i64.wrap m.Two = m.Two := by obtain ⟨_,h⟩ := h; exact (h.2.2.1).2
theorem rIns.w_Imm {N : Nat} {F : PH} {m : D.Ins} (h : ∃ f,(rInsN N).ok F m f) : IntKind.i32.wrap m.Imm = m.Imm := by obtain ⟨_,h⟩ := h; exact (h.2.2.2.2).2
theorem rIns.open {N : Nat} {F : PH} {v : Value} {m : D.Ins} (h : (rInsN N).ra F v m) : ∃ c3,v = .agg #[.int .i64 m.Op,.int .i64 m.Dst,.int .i64 m.Two,c3,.int .i32 m.Imm] ∧ (rLn N (rI .i64)).rv F c3 m.Args := by
 obtain ⟨l,rfl,hl,h⟩ := h
 match l,hl with
 | [a0,a1,a2,a3,a4],_ =>
   obtain ⟨⟨h0,_⟩,⟨h1,_⟩,⟨h2,_⟩,h3,⟨h4,_⟩⟩ := h
   obtain rfl : a0 = _ := h0
   obtain rfl : a1 = _ := h1
   obtain rfl : a2 = _ := h2
   obtain rfl : a4 = _ := h4
   exact ⟨a3,rfl,h3⟩
theorem rIns.mk {N : Nat} {F : PH} {m : D.Ins} {c3 : Value} (h3 : (rLn N (rI .i64)).rv F c3 m.Args) (w0 : IntKind.i64.wrap m.Op = m.Op) (w1 : IntKind.i64.wrap m.Dst = m.Dst) (w2 : IntKind.i64.wrap m.Two = m.Two) (w4 : IntKind.i32.wrap m.Imm = m.Imm) : (rInsN N).ra F (.agg #[.int .i64 m.Op,.int .i64 m.Dst,.int .i64 m.Two,c3,.int .i32 m.Imm]) m := ⟨[.int .i64 m.Op,.int .i64 m.Dst,.int .i64 m.Two,c3,.int .i32 m.Imm],rfl,rfl,⟨⟨rfl,w0⟩,⟨rfl,w1⟩,⟨rfl,w2⟩,h3,⟨rfl,w4⟩⟩⟩
structure D.Term where
 Kind : Int
 Args : List Int
 To : List Int
 Imm : Int
deriving DecidableEq
instance : Inhabited D.Term := ⟨⟨0,[],[],0⟩⟩
def rTermN (N : Nat) : Rp D.Term := rM (rP (rI .i64) (rP (rLn N (rI .i64)) (rP (rLn N (rI .i64)) (rI .i32)))) (fun m => (m.Kind,m.Args,m.To,m.Imm))
abbrev rTerm : Rp D.Term := rTermN 1073741824
theorem rTerm.any {N : Nat} {F : PH} {v : Value} {m : D.Term} (h : (rTermN N).ra F v m) : ∃ f,(rTermN N).ok F m f := by obtain ⟨l,_,_,h⟩ := h; exact ⟨_,h⟩
theorem rTerm.w_Kind {N : Nat} {F : PH} {m : D.Term} (h : ∃ f,(rTermN N).ok F m f) : IntKind.i64.wrap m.Kind = m.Kind := by obtain ⟨_,h⟩ := h; exact (h.1).2
theorem rTerm.w_Imm {N : Nat} {F : PH} {m : D.Term} (h : ∃ f,(rTermN N).ok F m f) : IntKind.i32.wrap m.Imm = m.Imm := by obtain ⟨_,h⟩ := h; exact (h.2.2.2).2
theorem rTerm.open {N : Nat} {F : PH} {v : Value} {m : D.Term} (h : (rTermN N).ra F v m) : ∃ c1 c2,v = .agg #[.int .i64 m.Kind,c1,c2,.int .i32 m.Imm] ∧ (rLn N (rI .i64)).rv F c1 m.Args ∧ (rLn N (rI .i64)).rv F c2 m.To := by
 obtain ⟨l,rfl,hl,h⟩ := h
 match l,hl with
 | [a0,a1,a2,a3],_ =>
   obtain ⟨⟨h0,_⟩,h1,h2,⟨h3,_⟩⟩ := h
   obtain rfl : a0 = _ := h0
   obtain rfl : a3 = _ := h3
   exact ⟨a1,a2,rfl,h1,h2⟩
theorem rTerm.mk {N : Nat} {F : PH} {m : D.Term} {c1 : Value} {c2 : Value} (h1 : (rLn N (rI .i64)).rv F c1 m.Args) (h2 : (rLn N (rI .i64)).rv F c2 m.To) (w0 : IntKind.i64.wrap m.Kind = m.Kind) (w3 : IntKind.i32.wrap m.Imm = m.Imm) : (rTermN N).ra F (.agg #[.int .i64 m.Kind,c1,c2,.int .i32 m.Imm]) m := ⟨[.int .i64 m.Kind,c1,c2,.int .i32 m.Imm],rfl,rfl,⟨⟨rfl,w0⟩,h1,h2,⟨rfl,w3⟩⟩⟩
structure D.Block where
 Phis : List D.Phi
 Ins : List D.Ins
 Term : D.Term
deriving DecidableEq
instance : Inhabited D.Block := ⟨⟨[],[],default⟩⟩
def rBlockN (N : Nat) : Rp D.Block := rM (rP (rLn N (rPhiN N)) (rP (rLn N (rInsN N)) (rTermN N))) (fun m => (m.Phis,m.Ins,m.Term))
abbrev rBlock : Rp D.Block := rBlockN 1073741824
theorem rBlock.at_Ins {N : Nat} {F : PH} {b o : Nat} {m : D.Block} (h : At F (rBlockN N) b o m) : At F (rLn N (rInsN N)) b (o + 1) m.Ins := At.part 1 h (Nat.le_of_ble_eq_true rfl) (fun _ h => h.2.1)
theorem rBlock.any {N : Nat} {F : PH} {v : Value} {m : D.Block} (h : (rBlockN N).ra F v m) : ∃ f,(rBlockN N).ok F m f := by obtain ⟨l,_,_,h⟩ := h; exact ⟨_,h⟩
theorem rBlock.k_Term {N : Nat} {F : PH} {m : D.Block} (h : ∃ f,(rBlockN N).ok F m f) : ∃ f,(rTermN N).ok F m.Term f := by obtain ⟨_,h⟩ := h; exact ⟨_,h.2.2⟩
theorem rBlock.open {N : Nat} {F : PH} {v : Value} {m : D.Block} (h : (rBlockN N).ra F v m) : ∃ c0 c1 c3 c4,v = .agg #[c0,c1,.int .i64 m.Term.Kind,c3,c4,.int .i32 m.Term.Imm] ∧ (rLn N (rPhiN N)).rv F c0 m.Phis ∧ (rLn N (rInsN N)).rv F c1 m.Ins ∧ (rLn N (rI .i64)).rv F c3 m.Term.Args ∧ (rLn N (rI .i64)).rv F c4 m.Term.To := by
 obtain ⟨l,rfl,hl,h⟩ := h
 match l,hl with
 | [a0,a1,a2,a3,a4,a5],_ =>
   obtain ⟨h0,h1,⟨⟨h2,_⟩,h3,h4,⟨h5,_⟩⟩⟩ := h
   obtain rfl : a2 = _ := h2
   obtain rfl : a5 = _ := h5
   exact ⟨a0,a1,a3,a4,rfl,h0,h1,h3,h4⟩
theorem rBlock.mk {N : Nat} {F : PH} {m : D.Block} {c0 : Value} {c1 : Value} {c3 : Value} {c4 : Value} (h0 : (rLn N (rPhiN N)).rv F c0 m.Phis) (h1 : (rLn N (rInsN N)).rv F c1 m.Ins) (h3 : (rLn N (rI .i64)).rv F c3 m.Term.Args) (h4 : (rLn N (rI .i64)).rv F c4 m.Term.To) (w2 : IntKind.i64.wrap m.Term.Kind = m.Term.Kind) (w5 : IntKind.i32.wrap m.Term.Imm = m.Term.Imm) : (rBlockN N).ra F (.agg #[c0,c1,.int .i64 m.Term.Kind,c3,c4,.int .i32 m.Term.Imm]) m := ⟨[c0,c1,.int .i64 m.Term.Kind,c3,c4,.int .i32 m.Term.Imm],rfl,rfl,⟨h0,h1,⟨⟨rfl,w2⟩,h3,h4,⟨rfl,w5⟩⟩⟩⟩
structure D.Func where
 Params : Int
 Blocks : List D.Block
deriving DecidableEq
instance : Inhabited D.Func := ⟨⟨0,[]⟩⟩
def rFuncN (N : Nat) : Rp D.Func := rM (rP (rI .i64) (rLn N (rBlockN N))) (fun m => (m.Params,m.Blocks))
abbrev rFunc : Rp D.Func := rFuncN 1073741824
theorem rFunc.open {N : Nat} {F : PH} {v : Value} {m : D.Func} (h : (rFuncN N).ra F v m) : ∃ c1,v = .agg #[.int .i64 m.Params,c1] ∧ (rLn N (rBlockN N)).rv F c1 m.Blocks := by
 obtain ⟨l,rfl,hl,h⟩ := h
 match l,hl with
 | [a0,a1],_ =>
   obtain ⟨⟨h0,_⟩,h1⟩ := h
   obtain rfl : a0 = _ := h0
   exact ⟨a1,rfl,h1⟩
theorem rFunc.mk {N : Nat} {F : PH} {m : D.Func} {c1 : Value} (h1 : (rLn N (rBlockN N)).rv F c1 m.Blocks) (w0 : IntKind.i64.wrap m.Params = m.Params) : (rFuncN N).ra F (.agg #[.int .i64 m.Params,c1]) m := ⟨[.int .i64 m.Params,c1],rfl,rfl,⟨⟨rfl,w0⟩,h1⟩⟩
@[reducible] def vInput (m : D.Input) (c : Value × Value × Value) : Value := .agg #[c.1,c.2.1,c.2.2,.int .i64 m.Steps]
theorem sInput {N : Nat} : Sr (rInputN N) vInput := ⟨fun h => by obtain ⟨c0,c1,c2,e,_,_,_⟩ := rInput.open h; exact ⟨(c0,c1,c2),e⟩⟩
theorem rInput.c_Args {N : Nat} {Γ : List Dt} {L : List Res} {m : D.Input} {c : Value × Value × Value} (h : Nd Γ L (da (rInputN N) (vInput m c) m)) : Nd Γ L (dv (rLn N (rI .i32)) c.1 m.Args) := fun F H x y z => leaf1 rfl ((ra_ok (h F H x y z)).1) rfl
theorem rInput.c_Mem {N : Nat} {Γ : List Dt} {L : List Res} {m : D.Input} {c : Value × Value × Value} (h : Nd Γ L (da (rInputN N) (vInput m c) m)) : Nd Γ L (dv (rLn N (rI .i32)) c.2.1 m.Mem) := fun F H x y z => leaf1 rfl ((ra_ok (h F H x y z)).2.1) rfl
theorem rInput.c_Answers {N : Nat} {Γ : List Dt} {L : List Res} {m : D.Input} {c : Value × Value × Value} (h : Nd Γ L (da (rInputN N) (vInput m c) m)) : Nd Γ L (dv (rLn N (rI .i32)) c.2.2 m.Answers) := fun F H x y z => leaf1 rfl ((ra_ok (h F H x y z)).2.2.1) rfl
theorem rInput.M {N : Nat} {Γ : List Dt} {L : List Res} {m : D.Input} {c : Value × Value × Value} (h0 : Nd Γ L (dv (rLn N (rI .i32)) c.1 m.Args)) (h1 : Nd Γ L (dv (rLn N (rI .i32)) c.2.1 m.Mem)) (h2 : Nd Γ L (dv (rLn N (rI .i32)) c.2.2 m.Answers)) (w0 : Wr Γ L .i64 m.Steps) : Nd Γ L (da (rInputN N) (vInput m c) m) := fun F H x y z => rInput.mk (m := m) (h0 F H x y z) (h1 F H x y z) (h2 F H x y z) (w0 F H x y z)
@[reducible] def vEvent (m : D.Event) (c : Value) : Value := .agg #[.int .i32 m.Callee,c]
theorem sEvent {N : Nat} : Sr (rEventN N) vEvent := ⟨fun h => by obtain ⟨c1,e,_⟩ := rEvent.open h; exact ⟨c1,e⟩⟩
theorem rEvent.M {N : Nat} {Γ : List Dt} {L : List Res} {m : D.Event} {c : Value} (h0 : Nd Γ L (dv (rLn N (rI .i32)) c m.Args)) (w0 : Wr Γ L .i32 m.Callee) : Nd Γ L (da (rEventN N) (vEvent m c) m) := fun F H x y z => rEvent.mk (m := m) (h0 F H x y z) (w0 F H x y z)
@[reducible] def vOutcome (m : D.Outcome) (c : Value × Value) : Value := .agg #[.int .i64 m.End,.int .i32 m.Val,c.1,c.2,.int .i64 m.Steps]
theorem sOutcome {N : Nat} : Sr (rOutcomeN N) vOutcome := ⟨fun h => by obtain ⟨c2,c3,e,_,_⟩ := rOutcome.open h; exact ⟨(c2,c3),e⟩⟩
theorem rOutcome.c_Mem {N : Nat} {Γ : List Dt} {L : List Res} {m : D.Outcome} {c : Value × Value} (h : Nd Γ L (da (rOutcomeN N) (vOutcome m c) m)) : Nd Γ L (dv (rLn N (rI .i32)) c.1 m.Mem) := fun F H x y z => leaf1 rfl ((ra_ok (h F H x y z)).2.2.1) rfl
theorem rOutcome.c_Calls {N : Nat} {Γ : List Dt} {L : List Res} {m : D.Outcome} {c : Value × Value} (h : Nd Γ L (da (rOutcomeN N) (vOutcome m c) m)) : Nd Γ L (dv (rLn N (rEventN N)) c.2 m.Calls) := fun F H x y z => leaf1 rfl ((ra_ok (h F H x y z)).2.2.2.1) rfl
theorem rOutcome.M {N : Nat} {Γ : List Dt} {L : List Res} {m : D.Outcome} {c : Value × Value} (h0 : Nd Γ L (dv (rLn N (rI .i32)) c.1 m.Mem)) (h1 : Nd Γ L (dv (rLn N (rEventN N)) c.2 m.Calls)) (w0 : Wr Γ L .i64 m.End) (w1 : Wr Γ L .i32 m.Val) (w2 : Wr Γ L .i64 m.Steps) : Nd Γ L (da (rOutcomeN N) (vOutcome m c) m) := fun F H x y z => rOutcome.mk (m := m) (h0 F H x y z) (h1 F H x y z) (w0 F H x y z) (w1 F H x y z) (w2 F H x y z)
@[reducible] def vIn (m : D.In) (c : Unit) : Value := .agg #[.int .i64 m.From,.int .i64 m.Val]
theorem sIn : Sr rIn vIn := ⟨fun h => ⟨(),rIn.open h⟩⟩
theorem rIn.A_Val {Γ : List Dt} {L : List Res} {b o : Nat} {m : D.In} (h : Nd Γ L (ad rIn b o m)) : Nd Γ L (ad (rI .i64) b (o + 1) m.Val) := fun F H x y z => rIn.at_Val (h F H x y z)
@[reducible] def vPhi (m : D.Phi) (c : Value) : Value := .agg #[.int .i64 m.Dst,c]
theorem sPhi {N : Nat} : Sr (rPhiN N) vPhi := ⟨fun h => by obtain ⟨c1,e,_⟩ := rPhi.open h; exact ⟨c1,e⟩⟩
theorem rPhi.c_In {N : Nat} {Γ : List Dt} {L : List Res} {m : D.Phi} {c : Value} (h : Nd Γ L (da (rPhiN N) (vPhi m c) m)) : Nd Γ L (dv (rLn N rIn) c m.In) := fun F H x y z => leaf1 rfl ((ra_ok (h F H x y z)).2) rfl
theorem rPhi.W_Dst {N : Nat} {Γ : List Dt} {L : List Res} {v : Value} {m : D.Phi} (h : Nd Γ L (da (rPhiN N) v m)) : Wr Γ L .i64 m.Dst := fun F H x y z => rPhi.w_Dst (m := m) (rPhi.any (h F H x y z))
@[reducible] def vIns (m : D.Ins) (c : Value) : Value := .agg #[.int .i64 m.Op,.int .i64 m.Dst,.int .i64 m.Two,c,.int .i32 m.Imm]
theorem sIns {N : Nat} : Sr (rInsN N) vIns := ⟨fun h => by obtain ⟨c3,e,_⟩ := rIns.open h; exact ⟨c3,e⟩⟩
theorem rIns.c_Args {N : Nat} {Γ : List Dt} {L : List Res} {m : D.Ins} {c : Value} (h : Nd Γ L (da (rInsN N) (vIns m c) m)) : Nd Γ L (dv (rLn N (rI .i64)) c m.Args) := fun F H x y z => leaf1 rfl ((ra_ok (h F H x y z)).2.2.2.1) rfl
theorem rIns.W_Dst {N : Nat} {Γ : List Dt} {L : List Res} {v : Value} {m : D.Ins} (h : Nd Γ L (da (rInsN N) v m)) : Wr Γ L .i64 m.Dst := fun F H x y z => rIns.w_Dst (m := m) (rIns.any (h F H x y z))
theorem rIns.W_Two {N : Nat} {Γ : List Dt} {L : List Res} {v : Value} {m : D.Ins} (h : Nd Γ L (da (rInsN N) v m)) : Wr Γ L .i64 m.Two := fun F H x y z => rIns.w_Two (m := m) (rIns.any (h F H x y z))
theorem rIns.W_Imm {N : Nat} {Γ : List Dt} {L : List Res} {v : Value} {m : D.Ins} (h : Nd Γ L (da (rInsN N) v m)) : Wr Γ L .i32 m.Imm := fun F H x y z => rIns.w_Imm (m := m) (rIns.any (h F H x y z))
theorem rIns.M {N : Nat} {Γ : List Dt} {L : List Res} {m : D.Ins} {c : Value} (h0 : Nd Γ L (dv (rLn N (rI .i64)) c m.Args)) (w0 : Wr Γ L .i64 m.Op) (w1 : Wr Γ L .i64 m.Dst) (w2 : Wr Γ L .i64 m.Two) (w3 : Wr Γ L .i32 m.Imm) : Nd Γ L (da (rInsN N) (vIns m c) m) := fun F H x y z => rIns.mk (m := m) (h0 F H x y z) (w0 F H x y z) (w1 F H x y z) (w2 F H x y z) (w3 F H x y z)
@[reducible] def vTerm (m : D.Term) (c : Value × Value) : Value := .agg #[.int .i64 m.Kind,c.1,c.2,.int .i32 m.Imm]
theorem sTerm {N : Nat} : Sr (rTermN N) vTerm := ⟨fun h => by obtain ⟨c1,c2,e,_,_⟩ := rTerm.open h; exact ⟨(c1,c2),e⟩⟩
theorem rTerm.c_Args {N : Nat} {Γ : List Dt} {L : List Res} {m : D.Term} {c : Value × Value} (h : Nd Γ L (da (rTermN N) (vTerm m c) m)) : Nd Γ L (dv (rLn N (rI .i64)) c.1 m.Args) := fun F H x y z => leaf1 rfl ((ra_ok (h F H x y z)).2.1) rfl
theorem rTerm.c_To {N : Nat} {Γ : List Dt} {L : List Res} {m : D.Term} {c : Value × Value} (h : Nd Γ L (da (rTermN N) (vTerm m c) m)) : Nd Γ L (dv (rLn N (rI .i64)) c.2 m.To) := fun F H x y z => leaf1 rfl ((ra_ok (h F H x y z)).2.2.1) rfl
theorem rTerm.W_Kind {N : Nat} {Γ : List Dt} {L : List Res} {v : Value} {m : D.Term} (h : Nd Γ L (da (rTermN N) v m)) : Wr Γ L .i64 m.Kind := fun F H x y z => rTerm.w_Kind (m := m) (rTerm.any (h F H x y z))
theorem rTerm.W_Imm {N : Nat} {Γ : List Dt} {L : List Res} {v : Value} {m : D.Term} (h : Nd Γ L (da (rTermN N) v m)) : Wr Γ L .i32 m.Imm := fun F H x y z => rTerm.w_Imm (m := m) (rTerm.any (h F H x y z))
theorem rTerm.M {N : Nat} {Γ : List Dt} {L : List Res} {m : D.Term} {c : Value × Value} (h0 : Nd Γ L (dv (rLn N (rI .i64)) c.1 m.Args)) (h1 : Nd Γ L (dv (rLn N (rI .i64)) c.2 m.To)) (w0 : Wr Γ L .i64 m.Kind) (w1 : Wr Γ L .i32 m.Imm) : Nd Γ L (da (rTermN N) (vTerm m c) m) := fun F H x y z => rTerm.mk (m := m) (h0 F H x y z) (h1 F H x y z) (w0 F H x y z) (w1 F H x y z)
@[reducible] def vBlock (m : D.Block) (c : Value × Value × Value × Value) : Value := .agg #[c.1,c.2.1,.int .i64 m.Term.Kind,c.2.2.1,c.2.2.2,.int .i32 m.Term.Imm]
theorem sBlock {N : Nat} : Sr (rBlockN N) vBlock := ⟨fun h => by obtain ⟨c0,c1,c3,c4,e,_,_,_,_⟩ := rBlock.open h; exact ⟨(c0,c1,c3,c4),e⟩⟩
theorem rBlock.cP {N : Nat} {Γ : List Dt} {L : List Res} {m : D.Block} {c : Value × Value × Value × Value} (h : Nd Γ L (da (rBlockN N) (vBlock m c) m)) : Nd Γ L (dv (rLn N (rPhiN N)) c.1 m.Phis) := fun F H x y z => leaf1 rfl ((ra_ok (h F H x y z)).1) rfl
theorem rBlock.cI {N : Nat} {Γ : List Dt} {L : List Res} {m : D.Block} {c : Value × Value × Value × Value} (h : Nd Γ L (da (rBlockN N) (vBlock m c) m)) : Nd Γ L (dv (rLn N (rInsN N)) c.2.1 m.Ins) := fun F H x y z => leaf1 rfl ((ra_ok (h F H x y z)).2.1) rfl
theorem rBlock.c_Term_Args {N : Nat} {Γ : List Dt} {L : List Res} {m : D.Block} {c : Value × Value × Value × Value} (h : Nd Γ L (da (rBlockN N) (vBlock m c) m)) : Nd Γ L (dv (rLn N (rI .i64)) c.2.2.1 m.Term.Args) := fun F H x y z => leaf1 rfl ((ra_ok (h F H x y z)).2.2.2.1) rfl
theorem rBlock.c_Term_To {N : Nat} {Γ : List Dt} {L : List Res} {m : D.Block} {c : Value × Value × Value × Value} (h : Nd Γ L (da (rBlockN N) (vBlock m c) m)) : Nd Γ L (dv (rLn N (rI .i64)) c.2.2.2 m.Term.To) := fun F H x y z => leaf1 rfl ((ra_ok (h F H x y z)).2.2.2.2.1) rfl
theorem rBlock.W_Term_Kind {N : Nat} {Γ : List Dt} {L : List Res} {v : Value} {m : D.Block} (h : Nd Γ L (da (rBlockN N) v m)) : Wr Γ L .i64 m.Term.Kind := fun F H x y z => rTerm.w_Kind (m := m.Term) (rBlock.k_Term (m := m) (rBlock.any (h F H x y z)))
theorem rBlock.W_Term_Imm {N : Nat} {Γ : List Dt} {L : List Res} {v : Value} {m : D.Block} (h : Nd Γ L (da (rBlockN N) v m)) : Wr Γ L .i32 m.Term.Imm := fun F H x y z => rTerm.w_Imm (m := m.Term) (rBlock.k_Term (m := m) (rBlock.any (h F H x y z)))
theorem rBlock.A_Ins {N : Nat} {Γ : List Dt} {L : List Res} {b o : Nat} {m : D.Block} (h : Nd Γ L (ad (rBlockN N) b o m)) : Nd Γ L (ad (rLn N (rInsN N)) b (o + 1) m.Ins) := fun F H x y z => rBlock.at_Ins (h F H x y z)
theorem rBlock.P_Term {N : Nat} {Γ : List Dt} {L : List Res} {m : D.Block} {c : Value × Value × Value × Value} (h : Nd Γ L (da (rBlockN N) (vBlock m c) m)) : Nd Γ L (da (rTermN N) (vTerm m.Term (c.2.2.1,c.2.2.2)) m.Term) := rTerm.M (m := m.Term) (c := (c.2.2.1,c.2.2.2)) (rBlock.c_Term_Args h) (rBlock.c_Term_To h) (rBlock.W_Term_Kind h) (rBlock.W_Term_Imm h)
theorem rBlock.M {N : Nat} {Γ : List Dt} {L : List Res} {m : D.Block} {c : Value × Value × Value × Value} (h0 : Nd Γ L (dv (rLn N (rPhiN N)) c.1 m.Phis)) (h1 : Nd Γ L (dv (rLn N (rInsN N)) c.2.1 m.Ins)) (h2 : Nd Γ L (dv (rLn N (rI .i64)) c.2.2.1 m.Term.Args)) (h3 : Nd Γ L (dv (rLn N (rI .i64)) c.2.2.2 m.Term.To)) (w0 : Wr Γ L .i64 m.Term.Kind) (w1 : Wr Γ L .i32 m.Term.Imm) : Nd Γ L (da (rBlockN N) (vBlock m c) m) := fun F H x y z => rBlock.mk (m := m) (h0 F H x y z) (h1 F H x y z) (h2 F H x y z) (h3 F H x y z) (w0 F H x y z) (w1 F H x y z)
@[reducible] def vFunc (m : D.Func) (c : Value) : Value := .agg #[.int .i64 m.Params,c]
theorem sFunc {N : Nat} : Sr (rFuncN N) vFunc := ⟨fun h => by obtain ⟨c1,e,_⟩ := rFunc.open h; exact ⟨c1,e⟩⟩
theorem rFunc.cB {N : Nat} {Γ : List Dt} {L : List Res} {m : D.Func} {c : Value} (h : Nd Γ L (da (rFuncN N) (vFunc m c) m)) : Nd Γ L (dv (rLn N (rBlockN N)) c m.Blocks) := fun F H x y z => leaf1 rfl ((ra_ok (h F H x y z)).2) rfl
theorem rFunc.M {N : Nat} {Γ : List Dt} {L : List Res} {m : D.Func} {c : Value} (h0 : Nd Γ L (dv (rLn N (rBlockN N)) c m.Blocks)) (w0 : Wr Γ L .i64 m.Params) : Nd Γ L (da (rFuncN N) (vFunc m c) m) := fun F H x y z => rFunc.mk (m := m) (h0 F H x y z) (w0 F H x y z)
def bitM (b : Bool) : Int := if b then 1 else 0
abbrev w32 (n : Int) : Int := IntKind.i32.wrap n
abbrev u32 (n : Int) : Int := IntKind.u32.wrap n
def shlM (a b : Int) : Int := w32 (a * 2 ^ (b % 32).toNat)
def shrM (a b : Int) : Int := w32 ((u32 a).fdiv (2 ^ (b % 32).toNat))
def sarM (a b : Int) : Int := a.fdiv (2 ^ (b % 32).toNat)
def divM (a b : Int) : Int := w32 (a.tdiv b)
def doM (op a b : Int) : Int × Bool :=
 if op = 2 then (w32 (a + b),true)
 else if op = 3 then (w32 (a - b),true)
 else if op = 4 then (w32 (a * b),true)
 else if op = 5 then (andI .i32 a b,true)
 else if op = 6 then (orI .i32 a b,true)
 else if op = 7 then (xorI .i32 a b,true)
 else if op = 8 then (shlM a b,true)
 else if op = 9 then (shrM a b,true)
 else if op = 10 then (sarM a b,true)
 else if op = 11 then (bitM (decide (a = b)),true)
 else if op = 12 then (bitM (decide (a < b)),true)
 else if op = 13 then (bitM (decide (u32 a < u32 b)),true)
 else if op = 14 then (if b = 0 then (0,false) else (divM a b,true))
 else (0,false)
def wideM (a b : Int) : Int × Int := (w32 (a * b),w32 ((a * b).fdiv 4294967296))
theorem b32 (b : Int) : IntKind.u32.wrap b % 32 = b % 32 := by rw [IntKind.wrap_u32]; omega
theorem tmod32 (b : Int) : Int.tmod (IntKind.u32.wrap b) 32 = b % 32 := by rw [Int.tmod_eq_emod_of_nonneg (u32_nn b),b32]
theorem min32 (b : Int) : min (b % 32).toNat 32 = (b % 32).toNat := by omega
theorem shl_prog (a b : Int) : shlI .i32 a (Int.tmod (IntKind.u32.wrap b) 32) = shlM a b := by
 rw [tmod32]; unfold shlI shlM
 show w32 (a * 2 ^ (min (b % 32).toNat 32)) = _
 rw [min32]
theorem shr_prog (a b : Int) : IntKind.i32.wrap (shrI .u32 (IntKind.u32.wrap a) (Int.tmod (IntKind.u32.wrap b) 32)) = shrM a b := by
 rw [tmod32]; unfold shrI shrM
 show w32 ((u32 a).fdiv (2 ^ (min (b % 32).toNat 32))) = _
 rw [min32]
theorem sar_prog (a b : Int) : shrI .i32 a (Int.tmod (IntKind.u32.wrap b) 32) = sarM a b := by
 rw [tmod32]; unfold shrI sarM
 show a.fdiv (2 ^ (min (b % 32).toNat 32)) = _
 rw [min32]
theorem mul_rng {a b : Int} (ha : -2147483648 ≤ a ∧ a ≤ 2147483647) (hb : -2147483648 ≤ b ∧ b ≤ 2147483647) : -4611686018427387904 ≤ a * b ∧ a * b ≤ 4611686018427387904 := by
 have h1 : (a * b).natAbs = a.natAbs * b.natAbs := Int.natAbs_mul a b
 have h2 : a.natAbs * b.natAbs ≤ 2147483648 * 2147483648 := Nat.mul_le_mul (by omega) (by omega)
 omega
theorem wbit_ct (b : Bool) : Tv Try.prog 38 #[.bool b] [] [] (.int .i32 (bitM b)) := by
 refine jenter (args := [.bool b]) Try.func38 rfl rfl rfl fun w0 X => ?_
 refine jq (jr (ja Z (jn (jx (jq (jq (jr (jm Z (jn (jx ?_))))))))))
 refine jif Z (fun hc1 => ?_) (fun hc1 => ?_)
 refine jq (jr (ja Z (jn (jx (jrt (jtr ?_))))))
 exact jrI Z Z (by first | (simp [bitM,hc1]; done) | (unfold bitM; (repeat' split) <;> first | rfl | (exfalso; omega) | (simp [bitM,hc1]; done)))
 refine jsk (jx (jq (jr (ja Z (jn (jx (jrt ?_)))))))
 exact jrI Z Z (by first | (simp [bitM,hc1]; done) | (unfold bitM; (repeat' split) <;> first | rfl | (exfalso; omega) | (simp [bitM,hc1]; done)))
abbrev U21 := @Try.underlying21
abbrev U3 := @Try.underlying3
abbrev U62 := @Try.underlying62
abbrev U77 := @Try.underlying77
abbrev U79 := @Try.underlying79
theorem E28 : Ent Try.prog 28 := ⟨_,Try.func28,by kernel_rfl,by kernel_rfl⟩
theorem E29 : Ent Try.prog 29 := ⟨_,Try.func29,by kernel_rfl,by kernel_rfl⟩
theorem E30 : Ent Try.prog 30 := ⟨_,Try.func30,by kernel_rfl,by kernel_rfl⟩
theorem E31 : Ent Try.prog 31 := ⟨_,Try.func31,by kernel_rfl,by kernel_rfl⟩
theorem E32 : Ent Try.prog 32 := ⟨_,Try.func32,by kernel_rfl,by kernel_rfl⟩
theorem E33 : Ent Try.prog 33 := ⟨_,Try.func33,by kernel_rfl,by kernel_rfl⟩
theorem E34 : Ent Try.prog 34 := ⟨_,Try.func34,by kernel_rfl,by kernel_rfl⟩
theorem E35 : Ent Try.prog 35 := ⟨_,Try.func35,by kernel_rfl,by kernel_rfl⟩
theorem E36 : Ent Try.prog 36 := ⟨_,Try.func36,by kernel_rfl,by kernel_rfl⟩
theorem E37 : Ent Try.prog 37 := ⟨_,Try.func37,by kernel_rfl,by kernel_rfl⟩
theorem E38 : Ent Try.prog 38 := ⟨_,Try.func38,by kernel_rfl,by kernel_rfl⟩
theorem E39 : Ent Try.prog 39 := ⟨_,Try.func39,by kernel_rfl,by kernel_rfl⟩
theorem E40 : Ent Try.prog 40 := ⟨_,Try.func40,by kernel_rfl,by kernel_rfl⟩
theorem E41 : Ent Try.prog 41 := ⟨_,Try.func41,by kernel_rfl,by kernel_rfl⟩
theorem O21 : One Try.prog 21 := ⟨_,Try.underlying21,rfl⟩
theorem O62 : One Try.prog 62 := ⟨_,Try.underlying62,rfl⟩
theorem Z62 : Sz Try.prog 62 1 := by unfold Sz; kernel_rfl
theorem J62 : (Try.prog.info? 62).bind (·.zero) = some (.int .u32 0) := by kernel_rfl
theorem J77 : (Try.prog.info? 77).bind (·.zero) = some (.nilFunc) := by kernel_rfl
theorem wDo1_ct (a : Int) {g0 : Nat} (b : Int) {g1 : Nat} : Tr Try.prog 28 #[.pointer (some ⟨g0,0,none⟩),.pointer (some ⟨g1,0,none⟩)] [] [bx g0 21 [.int .i32 a],bx g1 21 [.int .i32 b]] (fun _ : Unit => .int .i32 (w32 (a + b))) (fun _ => []) (fun _ _ => [bx g0 21 [.int .i32 a],bx g1 21 [.int .i32 b]]) := by
 refine jenter (args := [.pointer (some ⟨g0,0,none⟩),.pointer (some ⟨g1,0,none⟩)]) Try.func28 rfl rfl rfl fun w0 X => ?_
 refine jq (jr (ja Z (jn (jx (jq (jr (js (jl k0 O21 Z Z) (js (jl k1 O21 Z Z) (js (jaddw Z Z) (ja Z (jn ?_)))))))))))
 refine jx (jrt ?_)
 exact jr1 Z Z () (congrArg (Value.int .i32) (Eq.symm (by first | rfl | (simp [shl_prog,shr_prog,sar_prog]; done)))) dn (fun _ _ => (kd kn))
theorem wDo2_ct (a : Int) {g0 : Nat} (b : Int) {g1 : Nat} : Tr Try.prog 29 #[.pointer (some ⟨g0,0,none⟩),.pointer (some ⟨g1,0,none⟩)] [] [bx g0 21 [.int .i32 a],bx g1 21 [.int .i32 b]] (fun _ : Unit => .int .i32 (w32 (a - b))) (fun _ => []) (fun _ _ => [bx g0 21 [.int .i32 a],bx g1 21 [.int .i32 b]]) := by
 refine jenter (args := [.pointer (some ⟨g0,0,none⟩),.pointer (some ⟨g1,0,none⟩)]) Try.func29 rfl rfl rfl fun w0 X => ?_
 refine jq (jr (ja Z (jn (jx (jq (jr (js (jl k0 O21 Z Z) (js (jl k1 O21 Z Z) (js (jsubw Z Z) (ja Z (jn ?_)))))))))))
 refine jx (jrt ?_)
 exact jr1 Z Z () (congrArg (Value.int .i32) (Eq.symm (by first | rfl | (simp [shl_prog,shr_prog,sar_prog]; done)))) dn (fun _ _ => (kd kn))
theorem wDo3_ct (a : Int) {g0 : Nat} (b : Int) {g1 : Nat} : Tr Try.prog 30 #[.pointer (some ⟨g0,0,none⟩),.pointer (some ⟨g1,0,none⟩)] [] [bx g0 21 [.int .i32 a],bx g1 21 [.int .i32 b]] (fun _ : Unit => .int .i32 (w32 (a * b))) (fun _ => []) (fun _ _ => [bx g0 21 [.int .i32 a],bx g1 21 [.int .i32 b]]) := by
 refine jenter (args := [.pointer (some ⟨g0,0,none⟩),.pointer (some ⟨g1,0,none⟩)]) Try.func30 rfl rfl rfl fun w0 X => ?_
 refine jq (jr (ja Z (jn (jx (jq (jr (js (jl k0 O21 Z Z) (js (jl k1 O21 Z Z) (js (jmulw Z Z) (ja Z (jn ?_)))))))))))
 refine jx (jrt ?_)
 exact jr1 Z Z () (congrArg (Value.int .i32) (Eq.symm (by first | rfl | (simp [shl_prog,shr_prog,sar_prog]; done)))) dn (fun _ _ => (kd kn))
theorem wDo4_ct (a : Int) {g0 : Nat} (b : Int) {g1 : Nat} : Tr Try.prog 31 #[.pointer (some ⟨g0,0,none⟩),.pointer (some ⟨g1,0,none⟩)] [] [bx g0 21 [.int .i32 a],bx g1 21 [.int .i32 b]] (fun _ : Unit => .int .i32 (andI .i32 a b)) (fun _ => []) (fun _ _ => [bx g0 21 [.int .i32 a],bx g1 21 [.int .i32 b]]) := by
 refine jenter (args := [.pointer (some ⟨g0,0,none⟩),.pointer (some ⟨g1,0,none⟩)]) Try.func31 rfl rfl rfl fun w0 X => ?_
 refine jq (jr (ja Z (jn (jx (jq (jr (js (jl k0 O21 Z Z) (js (jl k1 O21 Z Z) (js (jandw Z Z) (ja Z (jn ?_)))))))))))
 refine jx (jrt ?_)
 exact jr1 Z Z () (congrArg (Value.int .i32) (Eq.symm (by first | rfl | (simp [shl_prog,shr_prog,sar_prog]; done)))) dn (fun _ _ => (kd kn))
theorem wDo5_ct (a : Int) {g0 : Nat} (b : Int) {g1 : Nat} : Tr Try.prog 32 #[.pointer (some ⟨g0,0,none⟩),.pointer (some ⟨g1,0,none⟩)] [] [bx g0 21 [.int .i32 a],bx g1 21 [.int .i32 b]] (fun _ : Unit => .int .i32 (orI .i32 a b)) (fun _ => []) (fun _ _ => [bx g0 21 [.int .i32 a],bx g1 21 [.int .i32 b]]) := by
 refine jenter (args := [.pointer (some ⟨g0,0,none⟩),.pointer (some ⟨g1,0,none⟩)]) Try.func32 rfl rfl rfl fun w0 X => ?_
 refine jq (jr (ja Z (jn (jx (jq (jr (js (jl k0 O21 Z Z) (js (jl k1 O21 Z Z) (js (jorw Z Z) (ja Z (jn ?_)))))))))))
 refine jx (jrt ?_)
 exact jr1 Z Z () (congrArg (Value.int .i32) (Eq.symm (by first | rfl | (simp [shl_prog,shr_prog,sar_prog]; done)))) dn (fun _ _ => (kd kn))
theorem wDo6_ct (a : Int) {g0 : Nat} (b : Int) {g1 : Nat} : Tr Try.prog 33 #[.pointer (some ⟨g0,0,none⟩),.pointer (some ⟨g1,0,none⟩)] [] [bx g0 21 [.int .i32 a],bx g1 21 [.int .i32 b]] (fun _ : Unit => .int .i32 (xorI .i32 a b)) (fun _ => []) (fun _ _ => [bx g0 21 [.int .i32 a],bx g1 21 [.int .i32 b]]) := by
 refine jenter (args := [.pointer (some ⟨g0,0,none⟩),.pointer (some ⟨g1,0,none⟩)]) Try.func33 rfl rfl rfl fun w0 X => ?_
 refine jq (jr (ja Z (jn (jx (jq (jr (js (jl k0 O21 Z Z) (js (jl k1 O21 Z Z) (js (jxorw Z Z) (ja Z (jn ?_)))))))))))
 refine jx (jrt ?_)
 exact jr1 Z Z () (congrArg (Value.int .i32) (Eq.symm (by first | rfl | (simp [shl_prog,shr_prog,sar_prog]; done)))) dn (fun _ _ => (kd kn))
theorem wDo7_ct (a : Int) {g0 : Nat} (b : Int) {g1 : Nat} : Tr Try.prog 34 #[.pointer (some ⟨g0,0,none⟩),.pointer (some ⟨g1,0,none⟩)] [] [bx g0 21 [.int .i32 a],bx g1 62 [.int .u32 (Int.tmod (IntKind.u32.wrap b) 32)]] (fun _ : Unit => .int .i32 (shlM a b)) (fun _ => []) (fun _ _ => [bx g0 21 [.int .i32 a],bx g1 62 [.int .u32 (Int.tmod (IntKind.u32.wrap b) 32)]]) := by
 refine jenter (args := [.pointer (some ⟨g0,0,none⟩),.pointer (some ⟨g1,0,none⟩)]) Try.func34 rfl rfl rfl fun w0 X => ?_
 refine jq (jr (ja Z (jn (jx (jq (jr (js (jl k0 O21 Z Z) (js (jl k1 O62 Z Z) (js (jshl Z Z (by rw [tmod32]; omega)) (ja Z (jn ?_)))))))))))
 refine jx (jrt ?_)
 exact jr1 Z Z () (congrArg (Value.int .i32) (Eq.symm (by first | rfl | (simp [shl_prog,shr_prog,sar_prog]; done)))) dn (fun _ _ => (kd kn))
theorem wDo8_ct (a : Int) {g0 : Nat} (b : Int) {g1 : Nat} : Tr Try.prog 35 #[.pointer (some ⟨g0,0,none⟩),.pointer (some ⟨g1,0,none⟩)] [] [bx g0 21 [.int .i32 a],bx g1 62 [.int .u32 (Int.tmod (IntKind.u32.wrap b) 32)]] (fun _ : Unit => .int .i32 (shrM a b)) (fun _ => []) (fun _ _ => [bx g0 21 [.int .i32 a],bx g1 62 [.int .u32 (Int.tmod (IntKind.u32.wrap b) 32)]]) := by
 refine jenter (args := [.pointer (some ⟨g0,0,none⟩),.pointer (some ⟨g1,0,none⟩)]) Try.func35 rfl rfl rfl fun w0 X => ?_
 refine jq (jr (ja Z (jn (jx (jq (jr (js (jl k0 O21 Z Z) (js (jco U21 U62 Z Z) (js (jl k1 O62 Z Z) (js (jshr Z Z (by rw [tmod32]; omega)) (js (jco U62 U21 Z Z) ?_)))))))))))
 refine ja Z (jn (jx (jrt ?_)))
 exact jr1 Z Z () (congrArg (Value.int .i32) (Eq.symm (by first | rfl | (simp [shl_prog,shr_prog,sar_prog]; done)))) dn (fun _ _ => (kd kn))
theorem wDo9_ct (a : Int) {g0 : Nat} (b : Int) {g1 : Nat} : Tr Try.prog 36 #[.pointer (some ⟨g0,0,none⟩),.pointer (some ⟨g1,0,none⟩)] [] [bx g0 21 [.int .i32 a],bx g1 62 [.int .u32 (Int.tmod (IntKind.u32.wrap b) 32)]] (fun _ : Unit => .int .i32 (sarM a b)) (fun _ => []) (fun _ _ => [bx g0 21 [.int .i32 a],bx g1 62 [.int .u32 (Int.tmod (IntKind.u32.wrap b) 32)]]) := by
 refine jenter (args := [.pointer (some ⟨g0,0,none⟩),.pointer (some ⟨g1,0,none⟩)]) Try.func36 rfl rfl rfl fun w0 X => ?_
 refine jq (jr (ja Z (jn (jx (jq (jr (js (jl k0 O21 Z Z) (js (jl k1 O62 Z Z) (js (jshr Z Z (by rw [tmod32]; omega)) (ja Z (jn ?_)))))))))))
 refine jx (jrt ?_)
 exact jr1 Z Z () (congrArg (Value.int .i32) (Eq.symm (by first | rfl | (simp [shl_prog,shr_prog,sar_prog]; done)))) dn (fun _ _ => (kd kn))
theorem wDo10_ct (a : Int) {g0 : Nat} (b : Int) {g1 : Nat} : Tr Try.prog 37 #[.pointer (some ⟨g0,0,none⟩),.pointer (some ⟨g1,0,none⟩)] [] [bx g0 21 [.int .i32 a],bx g1 21 [.int .i32 b]] (fun _ : Unit => .int .i32 (bitM (decide (a = b)))) (fun _ => []) (fun _ _ => [bx g0 21 [.int .i32 a],bx g1 21 [.int .i32 b]]) := by
 refine jenter (args := [.pointer (some ⟨g0,0,none⟩),.pointer (some ⟨g1,0,none⟩)]) Try.func37 rfl rfl rfl fun w0 X => ?_
 refine jq (jr (ja Z (jn (jx (jq (jr (js (jl k0 O21 Z Z) (js (jl k1 O21 Z Z) (js (jeql Z Z) (jcv E38 Z Z (wbit_ct (decide (a = b))) dn kn (ja Z ?_)))))))))))
 refine jn (jx (jrt ?_))
 exact jr1 Z Z () (congrArg (Value.int .i32) (Eq.symm (by first | rfl | (simp [shl_prog,shr_prog,sar_prog]; done)))) dn (fun _ _ => (kd kn))
theorem wDo11_ct (a : Int) {g0 : Nat} (b : Int) {g1 : Nat} : Tr Try.prog 39 #[.pointer (some ⟨g0,0,none⟩),.pointer (some ⟨g1,0,none⟩)] [] [bx g0 21 [.int .i32 a],bx g1 21 [.int .i32 b]] (fun _ : Unit => .int .i32 (bitM (decide (a < b)))) (fun _ => []) (fun _ _ => [bx g0 21 [.int .i32 a],bx g1 21 [.int .i32 b]]) := by
 refine jenter (args := [.pointer (some ⟨g0,0,none⟩),.pointer (some ⟨g1,0,none⟩)]) Try.func39 rfl rfl rfl fun w0 X => ?_
 refine jq (jr (ja Z (jn (jx (jq (jr (js (jl k0 O21 Z Z) (js (jl k1 O21 Z Z) (js (jlss Z Z) (jcv E38 Z Z (wbit_ct (decide (a < b))) dn kn (ja Z ?_)))))))))))
 refine jn (jx (jrt ?_))
 exact jr1 Z Z () (congrArg (Value.int .i32) (Eq.symm (by first | rfl | (simp [shl_prog,shr_prog,sar_prog]; done)))) dn (fun _ _ => (kd kn))
theorem wDo12_ct (a : Int) {g0 : Nat} (b : Int) {g1 : Nat} : Tr Try.prog 40 #[.pointer (some ⟨g0,0,none⟩),.pointer (some ⟨g1,0,none⟩)] [] [bx g0 21 [.int .i32 a],bx g1 21 [.int .i32 b]] (fun _ : Unit => .int .i32 (bitM (decide (u32 a < u32 b)))) (fun _ => []) (fun _ _ => [bx g0 21 [.int .i32 a],bx g1 21 [.int .i32 b]]) := by
 refine jenter (args := [.pointer (some ⟨g0,0,none⟩),.pointer (some ⟨g1,0,none⟩)]) Try.func40 rfl rfl rfl fun w0 X => ?_
 refine jq (jr (ja Z (jn (jx (jq (jr (js (jl k0 O21 Z Z) (js (jco U21 U62 Z Z) (js (jl k1 O21 Z Z) (js (jco U21 U62 Z Z) (js (jlss Z Z) ?_)))))))))))
 refine jcv E38 Z Z (wbit_ct (decide (IntKind.u32.wrap a < IntKind.u32.wrap b))) dn kn (ja Z (jn (jx (jrt ?_))))
 exact jr1 Z Z () (congrArg (Value.int .i32) (Eq.symm (by first | rfl | (simp [shl_prog,shr_prog,sar_prog]; done)))) dn (fun _ _ => (kd kn))
theorem wDo13_ct (a : Int) {g0 : Nat} (b : Int) {g1 : Nat} (hb : b ≠ 0) : Tr Try.prog 41 #[.pointer (some ⟨g0,0,none⟩),.pointer (some ⟨g1,0,none⟩)] [] [bx g0 21 [.int .i32 a],bx g1 21 [.int .i32 b]] (fun _ : Unit => .int .i32 (divM a b)) (fun _ => []) (fun _ _ => [bx g0 21 [.int .i32 a],bx g1 21 [.int .i32 b]]) := by
 refine jenter (args := [.pointer (some ⟨g0,0,none⟩),.pointer (some ⟨g1,0,none⟩)]) Try.func41 rfl rfl rfl fun w0 X => ?_
 refine jq (jr (ja Z (jn (jx (jq (jr (js (jl k0 O21 Z Z) (js (jl k1 O21 Z Z) (js (jquo Z Z hb) (ja Z (jn ?_)))))))))))
 refine jx (jrt ?_)
 exact jr1 Z Z () (congrArg (Value.int .i32) (Eq.symm (by first | rfl | (simp [shl_prog,shr_prog,sar_prog]; done)))) dn (fun _ _ => (kd kn))
theorem do_snd {op a b : Int} (h : 2 ≤ op ∧ op ≤ 14) (h2 : op = 14 → ¬ b = 0) : doM op a b = ((doM op a b).1,true) := by
 have hc : op = 2 ∨ op = 3 ∨ op = 4 ∨ op = 5 ∨ op = 6 ∨ op = 7 ∨ op = 8 ∨ op = 9 ∨ op = 10 ∨ op = 11 ∨ op = 12 ∨ op = 13 ∨ op = 14 := by omega
 rcases hc with rfl | rfl | rfl | rfl | rfl | rfl | rfl | rfl | rfl | rfl | rfl | rfl | rfl <;> first | rfl | (simp [doM,h2])
theorem Tr.perm {P : Program} {f : FuncId} {args : Array Value} {D0 : List Dt} {L0 : List Res} {ι : Type} {val : ι → Value} {dr : ι → List Dt} {lr lr' : Nat → ι → List Res} {M : Nat → ι → List Res} (h : Tr P f args D0 L0 val dr lr) (hk : ∀ B i,Tks (lr B i) (lr' B i) (M B i)) : Tr P f args D0 L0 val dr lr' := fun F H a b c =>
 (h F H a b c).mono fun v H' ⟨i,F',h1,h2⟩ => ⟨i,F',h1,fun B hB => by
   have h3 := h2 B hB
   exact ⟨h3.hx,h3.hin,h3.hw,h3.hd,((hk B i).ok h3.ok).1,fun k hk' => h3.ge k ((hk B i).own (.inl hk'))⟩⟩
section
variable {f : FuncId} {args : Array Value} {R1 R2 R3 : Res} {x y : Int}
theorem wdo_fr0 (h : Tr Try.prog f args [] [R1,R2] (fun _ : Unit => .int .i32 x) (fun _ => []) (fun _ _ => [R1,R2])) (e : y = x) : Tr Try.prog f args [] [R1,R2,R3] (fun _ : Unit => .int .i32 y) (fun _ => []) (fun _ _ => [R1,R2,R3]) := by
 subst e; exact Tr.fr h (kd kn)
theorem wdo_fr1 (h : Tr Try.prog f args [] [R1,R3] (fun _ : Unit => .int .i32 x) (fun _ => []) (fun _ _ => [R1,R3])) (e : y = x) : Tr Try.prog f args [] [R1,R2,R3] (fun _ : Unit => .int .i32 y) (fun _ => []) (fun _ _ => [R1,R2,R3]) := by
 subst e; exact Tr.perm (Tr.fr h (kc k0 (kc k1 kn))) (fun _ _ => kc k0 (kc k1 (kc k0 kn)))
end
theorem wtable_ct (a b op : Int) {g4 g5 g8 : Nat} {L : List (Int × Value)}
   (hL : L = [(2,.func (.func 28) #[] #[.pointer (some ⟨g4,0,none⟩),.pointer (some ⟨g5,0,none⟩)]),(3,.func (.func 29) #[] #[.pointer (some ⟨g4,0,none⟩),.pointer (some ⟨g5,0,none⟩)]),(4,.func (.func 30) #[] #[.pointer (some ⟨g4,0,none⟩),.pointer (some ⟨g5,0,none⟩)]),(5,.func (.func 31) #[] #[.pointer (some ⟨g4,0,none⟩),.pointer (some ⟨g5,0,none⟩)]),(6,.func (.func 32) #[] #[.pointer (some ⟨g4,0,none⟩),.pointer (some ⟨g5,0,none⟩)]),(7,.func (.func 33) #[] #[.pointer (some ⟨g4,0,none⟩),.pointer (some ⟨g5,0,none⟩)]),(8,.func (.func 34) #[] #[.pointer (some ⟨g4,0,none⟩),.pointer (some ⟨g8,0,none⟩)]),(9,.func (.func 35) #[] #[.pointer (some ⟨g4,0,none⟩),.pointer (some ⟨g8,0,none⟩)]),(10,.func (.func 36) #[] #[.pointer (some ⟨g4,0,none⟩),.pointer (some ⟨g8,0,none⟩)]),(11,.func (.func 37) #[] #[.pointer (some ⟨g4,0,none⟩),.pointer (some ⟨g5,0,none⟩)]),(12,.func (.func 39) #[] #[.pointer (some ⟨g4,0,none⟩),.pointer (some ⟨g5,0,none⟩)]),(13,.func (.func 40) #[] #[.pointer (some ⟨g4,0,none⟩),.pointer (some ⟨g5,0,none⟩)]),(14,.func (.func 41) #[] #[.pointer (some ⟨g4,0,none⟩),.pointer (some ⟨g5,0,none⟩)])] := by rfl) :
   ((lkM L op).getD .nilFunc = .nilFunc ∧ (op < 2 ∨ 14 < op)) ∨ ∃ (f : Nat) (cs : List Value),(lkM L op).getD .nilFunc = .func (.func f) #[] cs.toArray ∧ Ent Try.prog f ∧ (2 ≤ op ∧ op ≤ 14) ∧ ((op = 14 → b ≠ 0) → Tr Try.prog f cs.toArray [] [bx g4 21 [.int .i32 a],bx g5 21 [.int .i32 b],bx g8 62 [.int .u32 (Int.tmod (IntKind.u32.wrap b) 32)]] (fun _ : Unit => .int .i32 (doM op a b).1) (fun _ => []) (fun _ _ => [bx g4 21 [.int .i32 a],bx g5 21 [.int .i32 b],bx g8 62 [.int .u32 (Int.tmod (IntKind.u32.wrap b) 32)]])) := by
 subst hL
 by_cases ho : 2 ≤ op ∧ op ≤ 14
 · refine .inr ?_
   have hc : op = 2 ∨ op = 3 ∨ op = 4 ∨ op = 5 ∨ op = 6 ∨ op = 7 ∨ op = 8 ∨ op = 9 ∨ op = 10 ∨ op = 11 ∨ op = 12 ∨ op = 13 ∨ op = 14 := by omega
   rcases hc with rfl | rfl | rfl | rfl | rfl | rfl | rfl | rfl | rfl | rfl | rfl | rfl | rfl
   · exact ⟨_,[.pointer (some ⟨g4,0,none⟩),.pointer (some ⟨g5,0,none⟩)],rfl,E28,by omega,fun h9 => wdo_fr0 (wDo1_ct a b) rfl⟩
   · exact ⟨_,[.pointer (some ⟨g4,0,none⟩),.pointer (some ⟨g5,0,none⟩)],rfl,E29,by omega,fun h9 => wdo_fr0 (wDo2_ct a b) rfl⟩
   · exact ⟨_,[.pointer (some ⟨g4,0,none⟩),.pointer (some ⟨g5,0,none⟩)],rfl,E30,by omega,fun h9 => wdo_fr0 (wDo3_ct a b) rfl⟩
   · exact ⟨_,[.pointer (some ⟨g4,0,none⟩),.pointer (some ⟨g5,0,none⟩)],rfl,E31,by omega,fun h9 => wdo_fr0 (wDo4_ct a b) rfl⟩
   · exact ⟨_,[.pointer (some ⟨g4,0,none⟩),.pointer (some ⟨g5,0,none⟩)],rfl,E32,by omega,fun h9 => wdo_fr0 (wDo5_ct a b) rfl⟩
   · exact ⟨_,[.pointer (some ⟨g4,0,none⟩),.pointer (some ⟨g5,0,none⟩)],rfl,E33,by omega,fun h9 => wdo_fr0 (wDo6_ct a b) rfl⟩
   · exact ⟨_,[.pointer (some ⟨g4,0,none⟩),.pointer (some ⟨g8,0,none⟩)],rfl,E34,by omega,fun h9 => wdo_fr1 (wDo7_ct a b) rfl⟩
   · exact ⟨_,[.pointer (some ⟨g4,0,none⟩),.pointer (some ⟨g8,0,none⟩)],rfl,E35,by omega,fun h9 => wdo_fr1 (wDo8_ct a b) rfl⟩
   · exact ⟨_,[.pointer (some ⟨g4,0,none⟩),.pointer (some ⟨g8,0,none⟩)],rfl,E36,by omega,fun h9 => wdo_fr1 (wDo9_ct a b) rfl⟩
   · exact ⟨_,[.pointer (some ⟨g4,0,none⟩),.pointer (some ⟨g5,0,none⟩)],rfl,E37,by omega,fun h9 => wdo_fr0 (wDo10_ct a b) rfl⟩
   · exact ⟨_,[.pointer (some ⟨g4,0,none⟩),.pointer (some ⟨g5,0,none⟩)],rfl,E39,by omega,fun h9 => wdo_fr0 (wDo11_ct a b) rfl⟩
   · exact ⟨_,[.pointer (some ⟨g4,0,none⟩),.pointer (some ⟨g5,0,none⟩)],rfl,E40,by omega,fun h9 => wdo_fr0 (wDo12_ct a b) rfl⟩
   · exact ⟨_,[.pointer (some ⟨g4,0,none⟩),.pointer (some ⟨g5,0,none⟩)],rfl,E41,by omega,fun h9 => wdo_fr0 (wDo13_ct a b (h9 rfl)) (by simp [doM,h9 rfl])⟩
 · refine .inl ⟨?_,by omega⟩
   have h1 : ∀ k : Int,2 ≤ k → k ≤ 14 → (k == op) = false := fun k h2 h3 => by rw [beq_eq_false_iff_ne]; omega
   simp [lkM,List.find?,h1]
theorem wDo_ct (op : Int) (a : Int) (b : Int) : Tv Try.prog 14 #[.int .i64 op,.int .i32 a,.int .i32 b] [] [] (.tuple #[.int .i32 ((doM op a b).1),.bool ((doM op a b).2)]) := by
 refine jenter (args := [.int .i64 op,.int .i32 a,.int .i32 b]) Try.func14 rfl rfl rfl fun w0 X => ?_
 refine jq (jr (jbox Z Z fun g4 => jbox Z Z fun g5 => ja Z (ja Z (jn (jx (jq (jr (js (jl k0 O21 Z Z) (js (jco U21 U62 Z Z) ?_)))))))))
 refine js (jrem Z Z (by decide)) (jalc J62 Z fun g8 => jst k0 Z62 Z Z Z s0 (jn (jx (jq (jr (jmm fun g13 => js (jmf2 Z Z) (jin U79 U3 k0 Z Z Z Z (js (jmf2 Z Z) (jin U79 U3 k0 Z Z Z Z ?_)))))))))
 refine js (jmf2 Z Z) (jin U79 U3 k0 Z Z Z Z (js (jmf2 Z Z) (jin U79 U3 k0 Z Z Z Z (js (jmf2 Z Z) (jin U79 U3 k0 Z Z Z Z (js (jmf2 Z Z) (jin U79 U3 k0 Z Z Z Z (js (jmf2 Z Z) (jin U79 U3 k0 Z Z Z Z (js (jmf2 Z Z) (jin U79 U3 k0 Z Z Z Z ?_)))))))))))
 refine js (jmf2 Z Z) (jin U79 U3 k0 Z Z Z Z (js (jmf2 Z Z) (jin U79 U3 k0 Z Z Z Z (js (jmf2 Z Z) (jin U79 U3 k0 Z Z Z Z (js (jmf2 Z Z) (jin U79 U3 k0 Z Z Z Z (js (jmf2 Z Z) (jin U79 U3 k0 Z Z Z Z (jm Z (jm Z ?_)))))))))))
 refine jfk (p := fun v => (v = .nilFunc ∧ (op < 2 ∨ 14 < op)) ∨ ∃ (f : Nat) (cs : List Value),v = .func (.func f) #[] cs.toArray ∧ Ent Try.prog f ∧ (2 ≤ op ∧ op ≤ 14) ∧ ((op = 14 → b ≠ 0) → Tr Try.prog f cs.toArray [] [bx g4 21 [.int .i32 a],bx g5 21 [.int .i32 b],bx g8 62 [.int .u32 (Int.tmod (IntKind.u32.wrap b) 32)]] (fun _ : Unit => .int .i32 (doM op a b).1) (fun _ => []) (fun _ _ => [bx g4 21 [.int .i32 a],bx g5 21 [.int .i32 b],bx g8 62 [.int .u32 (Int.tmod (IntKind.u32.wrap b) 32)]]))) ⟨_,jlk U79 U3 J77 k0 Z Z,wtable_ct a b op⟩ ?_
 rintro v29 (⟨rfl,hop⟩ | ⟨f,cs,rfl,hE,hop,hct⟩)
 refine ja Z (jn (jx (jq (jq (jr (jm Z (js (jeqlN U77 Z Z) (jm Z (jg Z Z (.f _) (fun hg => jmv Z) (jg Z Z (.f _) (fun hg => jeql (evg Z hg) Z) (jg Z Z (.f _) (fun hg => jmv (evg Z hg)) ?_)))))))))))
 refine jg Z Z (.gt _ _) (fun hg => jl k2 O21 Z Z) (jg Z Z (.gt _ _) (fun hg => jeql (evg Z hg) Z) (jg Z Z (.f _) (fun hg => jand2 hg Z Z) (js (jor Z Z) (jn (jx ?_)))))
 refine jif Z (fun hc1 => ?_) (fun hc1 => ?_)
 refine jq (jr (ja Z (ja Z (jn (jx (jrt (jtr ?_)))))))
 exact jr2 Z Z Z () (tIB (by first | (unfold doM; (repeat rw [if_neg (by omega)]); done) | (simp at hc2; obtain ⟨rfl,rfl⟩ := hc2; rfl) | (simp at hc2; exact do_snd hop (fun h9 => hc2.resolve_left (fun h8 => h8 h9))))) dn (fun _ _ => kn)
 exact absurd hc1 (by simp)
 refine ja Z (jn (jx (jq (jq (jr (jm Z (js (jeqlF U77 Z Z) (jm Z (jk Z Z (.f _) (jmv Z) (jk Z Z (.f _) (jeql Z Z) (jk Z Z (.f _) (jmv Z) ?_)))))))))))
 refine jg Z Z (.t _) (fun hg => jl k2 O21 Z Z) (jg Z Z (.t _) (fun hg => jeql (evg Z hg) Z) (jk Z Z (.f _) (jand Z Z) (js (jor Z Z) (jn (jx ?_)))))
 refine jif Z (fun hc2 => ?_) (fun hc2 => ?_)
 refine jq (jr (ja Z (ja Z (jn (jx (jrt (jtr ?_)))))))
 exact jr2 Z Z Z () (tIB (by first | (unfold doM; (repeat rw [if_neg (by omega)]); done) | (simp at hc2; obtain ⟨rfl,rfl⟩ := hc2; rfl) | (simp at hc2; exact do_snd hop (fun h9 => hc2.resolve_left (fun h8 => h8 h9))))) dn (fun _ _ => kn)
 refine jsk (jx (jq (jr (jm Z (jc hE Z Z (hct (by omega)) dn (kc k3 (kc k2 (kc k1 kn))) (fun _ => p0) (fun _ => p3) fun _ => ja Z (ja Z (jn (jx (jrt ?_)))))))))
 exact jr2 Z Z Z () (tIB (by first | (unfold doM; (repeat rw [if_neg (by omega)]); done) | (simp at hc2; obtain ⟨rfl,rfl⟩ := hc2; rfl) | (simp at hc2; exact do_snd hop (fun h9 => hc2.resolve_left (fun h8 => h8 h9))))) dn (fun _ _ => kn)
abbrev U2 := @Try.underlying2
abbrev U23 := @Try.underlying23
theorem E16 : Ent Try.prog 16 := ⟨_,Try.func16,by kernel_rfl,by kernel_rfl⟩
theorem Z21 : Sz Try.prog 21 1 := by unfold Sz; kernel_rfl
def loadM (mem : List Int) (at' : Int) : Int × Bool := if at' < 0 ∨ mem.length ≤ at' then (0,false) else (ix mem at'.toNat,true)
def storeM (mem : List Int) (at' v : Int) : List Int := if at' < 0 ∨ mem.length ≤ at' then mem else mem.set at'.toNat v
theorem loadM_ok {mem : List Int} {a : Int} (h : (loadM mem a).2 = true) : 0 ≤ a ∧ a < mem.length := by
 unfold loadM at h; split at h
 · cases h
 · omega
theorem loadM_no {mem : List Int} {a : Int} (h : (loadM mem a).2 = false) : a < 0 ∨ mem.length ≤ a := by
 unfold loadM at h; split at h
 · assumption
 · cases h
def storeOk (mem : List Int) (at' _x : Int) : Bool := (loadM mem at').2
def memM (i : D.Input) : List Int := i.Mem.take 4096
theorem wide_prog {a b : Int} (ha : IntKind.i32.wrap a = a) (hb : IntKind.i32.wrap b = b) :
   wideM a b = (IntKind.i32.wrap (a * b),IntKind.i32.wrap (shrI .i64 (a * b) 32)) := by
 have h1 := i32_rng ha
 have h2 := i32_rng hb
 have h3 := mul_rng h1 h2
 unfold wideM shrI
 have e1 : (2 : Int) ^ (min (32 : Int).toNat IntKind.i64.bits) = 4294967296 := by decide
 rw [e1]
theorem storeM_len (rs : List Int) (r v : Int) : (storeM rs r v).length = rs.length := by unfold storeM; split <;> simp
theorem take_min {α : Type} (l : List α) (n : Nat) (m : Int) (h : m = n) : l.take n = l.take (Int.toNat (min (↑l.length) m)) := by
 subst h
 rcases Nat.le_total l.length n with h | h
 · rw [List.take_of_length_le h,List.take_of_length_le (by omega)]
 · congr 1; omega
theorem loadM_wrG {E B : Nat} {F : PH} {H : Heap} {v : Value} {l : List Int} (h : Gl (rI .i32) E F H B v l) (r : Int) : IntKind.i32.wrap (loadM l r).1 = (loadM l r).1 := by
 unfold loadM; split
 · decide
 · exact h.wr (by omega)
theorem sar_wr {a : Int} (b : Int) (ha : IntKind.i32.wrap a = a) : IntKind.i32.wrap (sarM a b) = sarM a b := by
 have h1 := i32_rng ha
 unfold sarM
 have h2 : (0 : Int) < 2 ^ (b % 32).toNat := Int.pow_pos (by decide)
 rw [Int.fdiv_eq_ediv_of_nonneg _ (by omega)]
 refine IntWalk.i32_in _ ⟨?_,?_⟩
 · rw [Int.le_ediv_iff_mul_le h2]
   have : (-2147483648 : Int) * 2 ^ (b % 32).toNat ≤ -2147483648 * 1 := by
     have := Int.mul_le_mul_of_nonneg_left (show (1 : Int) ≤ 2 ^ (b % 32).toNat by omega) (show (0 : Int) ≤ 2147483648 by decide)
     omega
   omega
 · have := Int.ediv_le_self (b := 2 ^ (b % 32).toNat) (a := a)
   by_cases h : 0 ≤ a
   · have := this h; omega
   · have := Int.ediv_neg_of_neg_of_pos (a := a) (b := 2 ^ (b % 32).toNat) (by omega) h2
     omega
theorem bit_wr (b : Bool) : IntKind.i32.wrap (bitM b) = bitM b := by cases b <;> decide
theorem doM_wr (op : Int) {a : Int} (b : Int) (ha : IntKind.i32.wrap a = a) : IntKind.i32.wrap (doM op a b).1 = (doM op a b).1 := by
 by_cases h : 2 ≤ op ∧ op ≤ 14
 · have hc : op = 2 ∨ op = 3 ∨ op = 4 ∨ op = 5 ∨ op = 6 ∨ op = 7 ∨ op = 8 ∨ op = 9 ∨ op = 10 ∨ op = 11 ∨ op = 12 ∨ op = 13 ∨ op = 14 := by omega
   rcases hc with rfl | rfl | rfl | rfl | rfl | rfl | rfl | rfl | rfl | rfl | rfl | rfl | rfl
   · exact JE.wrap_wrap _ _
   · exact JE.wrap_wrap _ _
   · exact JE.wrap_wrap _ _
   · exact JE.wrap_wrap _ _
   · exact JE.wrap_wrap _ _
   · exact JE.wrap_wrap _ _
   · exact JE.wrap_wrap _ _
   · exact JE.wrap_wrap _ _
   · exact sar_wr b ha
   · exact bit_wr _
   · exact bit_wr _
   · exact bit_wr _
   · have e1 : doM 14 a b = if b = 0 then (0,false) else (divM a b,true) := rfl
     rw [e1]; split
     · decide
     · exact JE.wrap_wrap _ _
 · have e1 : doM op a b = (0,false) := by unfold doM; repeat rw [if_neg (by omega)]
   rw [e1]; decide
theorem wld {D : List Dt} {L M : List Res} {B E : Nat} {v : Value} {l : List Int} (hk : Tk L (gl B (rI .i32) E v l) M) (r : Int) : Wr D L .i32 (loadM l r).1 := fun _ _ _ _ z => loadM_wrG (hk.ok z).1.1 r
theorem wdo {D : List Dt} {L : List Res} {op a b : Int} (h : Wr D L .i32 a) : Wr D L .i32 (doM op a b).1 := fun F H x y z => doM_wr _ _ (h F H x y z)
theorem wWide_ct (a : Int) (b : Int) (ww0 : IntKind.i32.wrap a = a) (ww1 : IntKind.i32.wrap b = b) : Tv Try.prog 15 #[.int .i32 a,.int .i32 b] [] [] (.tuple #[.int .i32 ((wideM a b).1),.int .i32 ((wideM a b).2)]) := by
 refine jenter (args := [.int .i32 a,.int .i32 b]) Try.func15 rfl rfl rfl fun w0 X => ?_
 have b0 := i32_rng ww0
 have b1 := i32_rng ww1
 have b2 := mul_rng b0 b1
 have c0 := IntWalk.i64_in a (by omega)
 have c1 := IntWalk.i64_in b (by omega)
 refine jq (jr (ja Z (ja Z (jn (jx (jq (jr (jm Z (js (jco U21 U2 Z (up_i32_i64 ww0)) (jm Z (js (jco U21 U2 Z (up_i32_i64 ww1)) ?_)))))))))))
 refine js (jmul Z Z (by omega)) (ja Z (jn (jx (jq (jr (jm Z (js (jco U2 U21 Z Z) (jm Z (js (jshr Z Z (by decide)) (js (jco U2 U21 Z Z) (ja Z ?_)))))))))))
 refine ja Z (jn (jx (jrt ?_)))
 exact jr2 Z Z Z () (tII (wide_prog ww0 ww1)) dn (fun _ _ => kn)
theorem pLoad_ct {a0 : Value} {mem : List Int} (at' : Int) (ww1 : IntKind.i32.wrap at' = at') : Tv Try.prog 16 #[a0,.int .i32 at'] [dv (rL (rI .i32)) a0 mem] [] (.tuple #[.int .i32 ((loadM mem at').1),.bool ((loadM mem at').2)]) := by
 refine jenter (args := [a0,.int .i32 at']) Try.func16 rfl rfl rfl fun w0 X => ?_
 refine jq (jr (ja Z (ja Z (jn (jx (jq (jq (jr (jm Z (js (jlss Z Z) (jm Z ?_)))))))))))
 refine jg Z Z (.f _) (fun hg => jmv Z) (jg Z Z (.f _) (fun hg => jco U21 U3 (evg Z hg) (up_i32_i64 ww1)) (jg Z Z (.f _) (fun hg => jmv Z) (jdq d0 fun q1 w1 => jg Z Z (.f _) (fun hg => jln U23 d0 (evg Z hg)) (jg Z Z (.f _) (fun hg => jgeq (evg Z hg) (evg Z hg)) (js (jor Z Z) (jn (jx ?_)))))))
 refine jif Z (fun hc1 => ?_) (fun hc1 => ?_)
 refine jq (jr (ja Z (ja Z (jn (jx (jrt (jtr ?_)))))))
 exact jr2 Z Z Z () (tIB (by first | (simp [loadM,hc1]; done) | (unfold loadM; (repeat' split) <;> first | rfl | (exfalso; omega) | (simp [loadM,hc1]; done)))) dn (fun _ _ => kn)
 refine jsk (jx (jq (jr (jm Z (jm Z (js (jix (i := (Int.toNat (at'))) U23 Z21 d0 Z Z (by omega) (by omega)) (js (jlI (dix d0 (Int.toNat (at')) (by omega)) O21 Z) (ja Z (ja Z (jn (jx ?_)))))))))))
 refine jrt ?_
 exact jr2 Z Z Z () (tIB (by first | (simp [loadM,hc1]; done) | (unfold loadM; (repeat' split) <;> first | rfl | (exfalso; omega) | (simp [loadM,hc1]; done)))) dn (fun _ _ => kn)
theorem pStore_ct {a0 : Value} {mem : List Int} {B0 : Nat} (at' : Int) (x : Int) (hl : mem.length < 1073741824) (ww1 : IntKind.i32.wrap at' = at') (ww2 : IntKind.i32.wrap x = x) : Tr Try.prog 18 #[a0,.int .i32 at',.int .i32 x] [] [gl B0 (rI .i32) 21 a0 mem] (fun _ : Unit => .bool (storeOk mem at' x)) (fun _ => []) (fun _ _ => [gl B0 (rI .i32) 21 a0 (storeM mem (at') x)]) := by
 refine jenter (args := [a0,.int .i32 at',.int .i32 x]) Try.func18 rfl rfl rfl fun w0 X => ?_
 refine cgo k0 fun w1 => jq (jr (ja Z (jn (jx (jq (jr (jm Z (jm Z (jc E16 Z Z (Tv.temp 1073741824 (pLoad_ct (at') ww1) (by omega)) dn (kc k0 kn) (fun _ => p0) (fun _ => p1) fun _ => jm Z ?_)))))))))
 refine js (jex' Z Z) (js (jex' Z Z) (ja Z (ja Z (jn (jx (jq (jq (jr (jm Z (jn (jx ?_)))))))))))
 refine jif Z (fun hc1 => ?_) (fun hc1 => ?_)
 have hb := loadM_ok hc1
 refine jr (jm Z (jm Z (jm Z (js (jig (i := (Int.toNat (at'))) U23 Z21 k0 Z Z (by omega) (by omega)) (jsg k0 Z Z21 Z Z Z (by omega) (wI (wp ww2)) (jn (jx (jq (jr (jm Z (ja Z ?_)))))))))))
 refine jn (jx (jrt ?_))
 exact jr1 Z Z () (congrArg Value.bool (Eq.symm (by first | (simp [storeOk, *]; done)))) dn (fun _ _ => (kcg (by first | (simp [storeM, *]; done) | (unfold storeM; rw [if_neg (by omega)]; done) | (unfold storeM; rw [if_pos (by omega)]; done)) k0 kn))
 have hb := loadM_no hc1
 refine jsk (jx (jq (jr (jm Z (ja Z (jn (jx (jrt ?_))))))))
 exact jr1 Z Z () (congrArg Value.bool (Eq.symm (by first | (simp [storeOk, *]; done)))) dn (fun _ _ => (kcg (by first | (simp [storeM, *]; done) | (unfold storeM; rw [if_neg (by omega)]; done) | (unfold storeM; rw [if_pos (by omega)]; done)) k0 kn))
theorem E46 : Ent Try.prog 46 := ⟨_,Try.func46,by kernel_rfl,by kernel_rfl⟩
theorem F40_1 : Fld Try.prog 40 1 1 := ⟨_,_,Try.underlying40,rfl,rfl,1,(by unfold Sz; kernel_rfl),by decide⟩
theorem I21 : (Try.prog.info? 21).map (fun i => (i.zero,i.size,i.bytes)) = some (some (.int .i32 0),1,4) := by kernel_rfl
theorem Mixed : Try.prog.follows .mixedOrders = true := Checked.mixed Try.checked
theorem O23 : One Try.prog 23 := ⟨_,Try.underlying23,rfl⟩
theorem clone32_ct {a0 : Value} {l : List Int} : Tg Try.prog 46 #[a0] [dv (rL (rI .i32)) a0 l] [] (rI .i32) 21 l := by
 refine jenter (args := [a0]) Try.func46 rfl rfl rfl fun w0 X => ?_
 refine jq (jr (ja Z (jn (jx (jq (jq (jr (jm Z (jeb (jeqlNil U23 d0 Z Z) fun b4 hnil4 => jn (jx ?_))))))))))
 refine jif Z (fun hc1 => ?_) (fun hc1 => ?_)
 refine jq (jr (ja Z (jn (jx (jrt (jtr (qnl (r := (rI .i32)) (E := 21) ?_)))))))
 exact jrG Z Z (by first | rfl | exact hnil4 hc1) k0
 refine jsk (jx (jq (jr (jlit (r := (rI .i32)) (l := []) U23 I21 (by decide) Z Z Z ln fun g5 => jm Z (jdq d0 fun q2 w2 => japlz U23 I21 (by decide) Z k0 Z Z d0 (by omega) fun v7 w3 => ja Z (jn (jx (jrt ?_))))))))
 exact jrG Z Z (by first | rfl | exact hnil4 hc1) k0
theorem pMem_ct {a0a a0b a0c : Value} {i : D.Input} : Tg Try.prog 23 #[vInput i (a0a,a0b,a0c)] [da rInput (vInput i (a0a,a0b,a0c)) i] [] (rI .i32) 21 (memM i) := by
 refine jenter (args := [vInput i (a0a,a0b,a0c)]) Try.func23 rfl rfl rfl fun w0 X => ?_
 refine jq (jr (jbox Z Z fun g1 => ja Z (jn (jx (jq (jr (js (jf F40_1 Z) (js (jl k0 O23 Z Z) (js (jf F40_1 Z) (js (jl k0 O23 Z Z) ?_))))))))))
 refine jdq (rInput.c_Mem d0) fun q1 w1 => js (jln U23 (rInput.c_Mem d0) Z) (js (jmin Z Z) (js (jshi (hi := (Int.toNat (min (↑(List.length i.Mem)) 4096))) U23 Z21 (rInput.c_Mem d0) Z Z (by omega) (by omega)) (jdq (dhi (rInput.c_Mem d0) (Int.toNat (min (↑(List.length i.Mem)) 4096)) (by omega) (by omega)) fun q2 w2 => jcg E46 Z Z clone32_ct (dc (dhi (rInput.c_Mem d0) (Int.toNat (min (↑(List.length i.Mem)) 4096)) (by omega) (by omega)) dn) kn fun v10 w3 => ja Z (jn (jx (jrt ?_))))))
 exact jrG Z Z (take_min _ 4096 _ rfl) k0
abbrev U55 := @Try.underlying55
theorem A54 : ∃ d,Try.prog.underlying 54 = some d ∧ (match d with | .struct _ | .array _ _ => true | _ => false) = true := ⟨_,Try.underlying54,rfl⟩
theorem Z54 : Sz Try.prog 54 2 := by unfold Sz; kernel_rfl
def idxM {α : Type} (l : List α) (q : α → Bool) : Int := match l.findIdx? q with
 | some i => i
 | none => -1
theorem idx_hit {α : Type} [Inhabited α] {l : List α} {q : α → Bool} {k : Nat} (hk : k < l.length) (h : ∀ x ∈ l.take k,q x = false) (h1 : q (ix l k) = true) : idxM l q = k := by
 have : l.findIdx? q = some k := by
   rw [List.findIdx?_eq_some_iff_getElem]
   refine ⟨hk,by rw [← ix_eq hk]; exact h1,fun j hj => ?_⟩
   have := h l[j] (by rw [List.mem_take_iff_getElem]; exact ⟨j,by omega,rfl⟩)
   simp [this]
 simp [idxM,this]
theorem idx_none {α : Type} {l : List α} {q : α → Bool} {k : Nat} (hk : l.length ≤ k) (h : ∀ x ∈ l.take k,q x = false) : idxM l q = -1 := by
 rw [List.take_of_length_le hk] at h
 have : l.findIdx? q = none := by rw [List.findIdx?_eq_none_iff]; exact h
 simp [idxM,this]
theorem no_snoc {α : Type} [Inhabited α] {l : List α} {q : α → Bool} {k : Nat} (hk : k < l.length) (h : ∀ x ∈ l.take k,q x = false) (h1 : q (ix l k) = false) : ∀ x ∈ l.take (k + 1),q x = false := by
 intro x hx
 rw [take_ix hk] at hx
 rcases List.mem_append.1 hx with hx | hx
 · exact h x hx
 · simp at hx; subst hx; exact h1
theorem idxFIn_ct {a0 : Value} {l : List D.In} {fp : Nat} {cp : List Value} {D1 : List Dt} {L1 : List Res} (q : D.In → Bool) (hE : Ent Try.prog fp) (hq : ∀ x,x ∈ l → ∀ c : Unit,Pd Try.prog fp (vIn x c :: cp).toArray [da rIn (vIn x c) x,dl D1] L1 (q x)) : Tr Try.prog 47 #[a0,.func (.func fp) #[] cp.toArray] [dv (rL rIn) a0 l,dl D1] [it L1] (fun _ : Unit => .int .i64 (idxM l q)) (fun _ => []) (fun _ _ => [it L1]) := by
 refine jenter (args := [a0,.func (.func fp) #[] cp.toArray]) Try.func47 rfl rfl rfl fun w0 X => ?_
 refine jq (jr (ja Z (jn (jx (jq (jq (jr (jm Z (jdq d0 fun q1 w1 => js (jln U55 d0 Z) (jm Z ?_))))))))))
 refine jn (jx (jb ?_))
 refine jlp (fun (k : Nat) => ⟨k ≤ l.length ∧ (∀ x ∈ l.take k,q x = false),[dv (rL rIn) a0 l,dl D1],[it L1],[(0,a0),(1,.func (.func fp) #[] cp.toArray),(7,.int .i64 (↑(List.length l))),(8,.int .i64 (↑k))],l.length - k⟩) 0 ⟨by omega,by simp⟩ (dc d0 (dc d1 dn)) (kc k0 kn) ⟨Z,Z,Z,eqI (by omega),trivial⟩ ?_
 rintro k; dsimp only; rintro ⟨hk,hR⟩
 refine jq (jr (js (jlss Z Z) (jn (jx (jq ?_)))))
 refine jif Z (fun hc1 => ?_) (fun hc1 => ?_)
 refine jsk (jx (jq (jb (jq (jr (jm Z (ja Z (jn (jx (jq (jr ?_)))))))))))
 refine jm Z (jm Z (jm Z (js (jix U55 Z54 d0 Z Z Z (by omega)) (jA sIn (jlA (dix d0 k (by omega)) A54 Z54 Z) fun _ => jc hE Z Z (hq (ix l k) (ix_mem (by omega)) ()) (dc d0 (dc d2 dn)) (kc k0 kn) (fun _ => p0) (fun _ => p1) fun _ => jn (jx ?_)))))
 refine jif Z (fun hc2 => ?_) (fun hc2 => ?_)
 refine jq (jr (jm Z (ja Z (jn (jx (jrt (jbr (jtr (jtr (jbr (jtr ?_)))))))))))
 exact jr1 Z Z () (congrArg (Value.int .i64) (Eq.symm (idx_hit (by omega) hR hc2))) dn (fun _ _ => (kc k0 kn))
 refine jsk (jbn (jx (jr (js (jadd Z Z (by omega)) (jm Z (jn ?_))))))
 exact jag (k + 1) ⟨by omega,no_snoc (by omega) hR hc2⟩ (dc d1 (dc d2 dn)) (kc k0 kn) ⟨Z,Z,Z,eqI (by omega),trivial⟩
 refine jex (jtx (jtx (jbh (jx (jq (jr (ja Z (jn (jx (jrt ?_))))))))))
 exact jr1 Z Z () (congrArg (Value.int .i64) (Eq.symm (idx_none (by omega) hR))) dn (fun _ _ => (kc k0 kn))
abbrev U32 := @Try.underlying32
theorem E74 : Ent Try.prog 74 := ⟨_,Try.func74,by kernel_rfl,by kernel_rfl⟩
theorem O3 : One Try.prog 3 := ⟨_,Try.underlying3,rfl⟩
theorem Z3 : Sz Try.prog 3 1 := by unfold Sz; kernel_rfl
def isFrom (from' : Int) (x : D.In) : Bool := decide (x.From = from')
theorem idx_lt {α : Type} (l : List α) (q : α → Bool) : idxM l q < l.length := by
 unfold idxM
 cases h : l.findIdx? q with
 | none => simp only; omega
 | some i => obtain ⟨hi,_⟩ := List.findIdx?_eq_some_iff_getElem.1 h; simp only; omega
def phiOk (from' : Int) (n : Nat) (p : D.Phi) : Prop := 0 ≤ p.Dst ∧ p.Dst < n ∧ 0 ≤ idxM p.In (isFrom from') ∧ ∀ x ∈ p.In,0 ≤ x.Val ∧ x.Val < n
theorem phiOk.v {from' : Int} {n : Nat} {p : D.Phi} (h : phiOk from' n p) : 0 ≤ (ix p.In (Int.toNat (idxM p.In (isFrom from')))).Val ∧ (ix p.In (Int.toNat (idxM p.In (isFrom from')))).Val < n := by
 have := idx_lt p.In (isFrom from')
 exact h.2.2.2 _ (ix_mem (by have := h.2.2.1; omega))
theorem memM_len (i : D.Input) : (memM i).length ≤ 4096 := by unfold memM; simp; omega
section
variable {a b : D.Outcome}
end
abbrev U24 := @Try.underlying24
theorem F26_0 : Fld Try.prog 26 0 0 := ⟨_,_,Try.underlying26,rfl,rfl,1,(by unfold Sz; kernel_rfl),by decide⟩
theorem F26_1 : Fld Try.prog 26 1 1 := ⟨_,_,Try.underlying26,rfl,rfl,1,(by unfold Sz; kernel_rfl),by decide⟩
theorem F26_2 : Fld Try.prog 26 2 2 := ⟨_,_,Try.underlying26,rfl,rfl,1,(by unfold Sz; kernel_rfl),by decide⟩
theorem F26_3 : Fld Try.prog 26 3 3 := ⟨_,_,Try.underlying26,rfl,rfl,1,(by unfold Sz; kernel_rfl),by decide⟩
theorem O24 : One Try.prog 24 := ⟨_,Try.underlying24,rfl⟩
structure BV where
 P : Value
 I : Value
 T : D.Term
instance : Inhabited BV := ⟨⟨.slice none 0 0,.slice none 0 0,default⟩⟩
section
variable {P : Program} {D0 Γ : List Dt} {L M N L0 : List Res} {e : Env} {X : Cx} {n : Fs} {w0 : World} {Q : Exit → Act → World → Prop} {F G : PH} {H : Heap} {B j i o : Nat} {v u v' : Value} {qs : List BV} {bs : List D.Block} {q' : BV} {b' : D.Block}
theorem hp_re {L2 : List Res} (h : Hp X Γ L F H) (ho : Ok F H L → Ok F H L2) (hw : ∀ k,Own L2 k → Own L k) : Hp X Γ L2 F H := ⟨h.hx,h.hin,h.hw,h.hd,ho h.ok,fun k hk => h.ge k (hw k hk)⟩
variable {ops : Array Oper} {rest : List Oper} {ty : TypeId} {pos : String} {af : Array Edge}
variable {f : FuncId} {args : Array Value} {x : Value}
end
structure Mk where
 s : List Int
 k : Int
 par : Int
 bs : List D.Block
 nx : Int
 lv : List Int
def tVV (n : Int) (m : Mk) : Int := Int.tmod (Int.tmod (if m.k < m.s.length then ix m.s m.k.toNat else 0) n + n) n
def tSS (m : Mk) : Mk := { m with k := m.k + 1 }
def wordV (m : Mk) : Int :=
 if tVV 8 (tSS m) = 0 then IntKind.i32.wrap (tVV 1048576 m * 4099)
 else if tVV 8 (tSS m) = 1 then -tVV 1048576 m
 else if tVV 8 (tSS m) = 2 then -2147483648
 else if tVV 8 (tSS m) = 3 then Int.tmod (tVV 1048576 m) 70000
 else Int.tmod (tVV 1048576 m) 20 - 4
def wordS (m : Mk) : Mk := tSS (tSS m)
def valueB (m : Mk) : Bool := !decide (m.lv.length = 0)
def valueI (m : Mk) : Int := if tVV 3 (tSS m) = 0 then (m.lv.length : Int) - 1 else tVV m.lv.length m
def valueV (m : Mk) : Int := if m.lv.length = 0 then 0 else ix m.lv (valueI m).toNat
def valueS (m : Mk) : Mk := if m.lv.length = 0 then m else tSS (tSS m)
def freshS (m : Mk) : Mk := { m with nx := m.nx + 1 }
def makes3 (i : D.Ins) : List Int := if i.Op = 16 then [] else if i.Op = 18 then [i.Dst,i.Two] else [i.Dst]
def addS (b : Int) (i : D.Ins) (m : Mk) : Mk := { m with bs := m.bs.set b.toNat { (ix m.bs b.toNat) with Ins := (ix m.bs b.toNat).Ins ++ [i] },lv := m.lv ++ makes3 i }
def constS (b n : Int) (m : Mk) : Mk := addS b ⟨1,m.nx,0,[],n⟩ (freshS m)
def someC (m : Mk) : Bool := !valueB m || decide (tVV 9 (valueS m) = 0)
def someM0 (m : Mk) : Mk := if valueB m then tSS (valueS m) else valueS m
def sV9 (m : Mk) : Int := if someC m then (wordS (someM0 m)).nx else valueV m
def sS9 (b : Int) (m : Mk) : Mk := if someC m then constS b (wordV (someM0 m)) (wordS (someM0 m)) else someM0 m
def cntT : List D.Block → Nat
 | [] => 0
 | x :: l => x.Phis.length + x.Ins.length + 1 + cntT l
theorem cntT_ix : ∀ {l : List D.Block} {j : Nat},j < l.length → (ix l j).Phis.length + (ix l j).Ins.length ≤ cntT l
 | x :: l,0,_ => by rw [ix_zero,cntT]; omega
 | x :: l,j + 1,h => by rw [ix_cons,cntT]; have := cntT_ix (l := l) (j := j) (by simpa using h); omega
def okM (nb c : Nat) (m : Mk) : Prop := (0 ≤ m.k ∧ m.k ≤ c) ∧ (0 ≤ m.nx ∧ m.nx ≤ c) ∧ (0 ≤ m.par ∧ m.par ≤ 4) ∧ m.lv.length ≤ 2 * c + 4 ∧ m.bs.length = nb ∧ cntT m.bs ≤ c
theorem okM.row {nb c : Nat} {m : Mk} (h : okM nb c m) {j : Nat} (hj : j < nb) : (ix m.bs j).Phis.length ≤ c ∧ (ix m.bs j).Ins.length ≤ c := by
 have h1 := cntT_ix (l := m.bs) (j := j) (by rw [h.2.2.2.2.1]; exact hj)
 have h2 := h.2.2.2.2.2
 omega
theorem okM.mono {nb c c' : Nat} {m : Mk} (h : okM nb c m) (hc : c ≤ c') : okM nb c' m := ⟨⟨h.1.1,by have := h.1.2; omega⟩,⟨h.2.1.1,by have := h.2.1.2; omega⟩,h.2.2.1,by have := h.2.2.2.1; omega,h.2.2.2.2.1,by have := h.2.2.2.2.2; omega⟩
section
variable {nb c : Nat} {m : Mk}
theorem tV9 {n : Int} (hn : 0 < n) (m : Mk) : 0 ≤ tVV n m ∧ tVV n m < n := by
 unfold tVV
 generalize (if m.k < m.s.length then ix m.s m.k.toNat else 0) = x
 have h1 := Int.lt_tmod_of_pos x hn
 exact ⟨Int.tmod_nonneg _ (by omega),Int.tmod_lt_of_pos _ hn⟩
end
theorem okM.s (nb c : Nat) (m : Mk) : True := trivial
abbrev okS (nb c : Nat) (S : List Int) (m : Mk) : Prop := okM nb c m ∧ m.s = S
theorem okS.mono {nb c c' : Nat} {S : List Int} {m : Mk} (h : okS nb c S m) (hc : c ≤ c') : okS nb c' S m := ⟨okM.mono h.1 hc,h.2⟩
end Go.Proofs.Ytmfkkodnghambaa
