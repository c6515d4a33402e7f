/- Lemmas that the claim is made of. Conditions: each lemma names its own. -/
import Derived.Test.YtmfkkodnghambaaGreatKJ9
import Derived.Test.YtmfkkodnghambaaGreatKJ3
import Derived.Test.YtmfkkodnghambaaGreatKJ1
import Derived.Lib.SliceRun
import Derived.RangeFuncNested
import Derived.RangeFuncCalls
import Derived.RangeFuncLeaves
import Derived.Below
import Derived.OrdersIn
set_option linter.unusedSectionVars false
set_option linter.unusedSimpArgs false
set_option linter.unusedVariables false
namespace Go.Proofs.YtmfkkodnghambaaGreat
open Go.JE
def wv (b p : Int) : Value := .agg #[.int .i64 b,.int .i64 p]
def insA (b p : Int) (l : List Int) (L : List (Int × Value)) : List (Int × Value) := l.foldl (fun m n => upM m n (wv b p)) L
theorem lk_insA {b p : Int} : ∀ (l : List Int) (L : List (Int × Value)) (n : Int),lkM (insA b p l L) n = if n ∈ l then some (wv b p) else lkM L n
 | [],L,n => by simp [insA]
 | x :: l,L,n => by
   have h := lk_insA (b := b) (p := p) l (upM L x (wv b p)) n
   unfold insA at h ⊢
   rw [List.foldl_cons,h,upM_lk]
   by_cases h1 : n ∈ l
   · rw [if_pos h1,if_pos (by simp [h1])]
   · rw [if_neg h1]
     by_cases h2 : n = x
     · rw [if_pos h2,if_pos (by simp [h2])]
     · rw [if_neg h2,if_neg (by simp [h1,h2])]
theorem insA_app {b p : Int} {l : List Int} {n : Int} {L : List (Int × Value)} : insA b p (l ++ [n]) L = upM (insA b p l L) n (wv b p) := by unfold insA; rw [List.foldl_append]; rfl
def phA (b : Int) (ps : List D.Phi) (L : List (Int × Value)) : Nat → List (Int × Value)
 | 0 => L
 | k + 1 => insA b (-1 - k) [(ix ps k).Dst] (phA b ps L k)
def inA (b : Int) (is : List D.Ins) (L : List (Int × Value)) : Nat → List (Int × Value)
 | 0 => L
 | k + 1 => insA b k (makes3 (ix is k)) (inA b is L k)
def bkA (bs : List D.Block) : Nat → List (Int × Value)
 | 0 => []
 | k + 1 => inA k (ix bs k).Ins (phA k (ix bs k).Phis (bkA bs k) (ix bs k).Phis.length) (ix bs k).Ins.length
theorem phA_no {b : Int} {ps : List D.Phi} {L : List (Int × Value)} {n : Int} : ∀ {k : Nat},lkM (phA b ps L k) n = none ↔ lkM L n = none ∧ ∀ i,i < k → n ≠ (ix ps i).Dst
 | 0 => by simp [phA]
 | k + 1 => by
   have ih := phA_no (b := b) (ps := ps) (L := L) (n := n) (k := k)
   rw [phA,lk_insA]
   constructor
   · intro h
     split at h
     · cases h
     · rename_i h1
       have h2 := ih.1 h
       refine ⟨h2.1,fun i hi e => ?_⟩
       rcases Nat.lt_or_ge i k with h3 | h3
       · exact h2.2 i h3 e
       · rw [show i = k by omega] at e; exact h1 (by simp [e])
   · rintro ⟨h1,h2⟩
     rw [if_neg (by simpa using h2 k (by omega))]
     exact ih.2 ⟨h1,fun i hi => h2 i (by omega)⟩
theorem inA_no {b : Int} {is : List D.Ins} {L : List (Int × Value)} {n : Int} : ∀ {k : Nat},lkM (inA b is L k) n = none ↔ lkM L n = none ∧ ∀ i,i < k → n ∉ makes3 (ix is i)
 | 0 => by simp [inA]
 | k + 1 => by
   have ih := inA_no (b := b) (is := is) (L := L) (n := n) (k := k)
   rw [inA,lk_insA]
   constructor
   · intro h
     split at h
     · cases h
     · rename_i h1
       have h2 := ih.1 h
       refine ⟨h2.1,fun i hi e => ?_⟩
       rcases Nat.lt_or_ge i k with h3 | h3
       · exact h2.2 i h3 e
       · rw [show i = k by omega] at e; exact h1 e
   · rintro ⟨h1,h2⟩
     rw [if_neg (h2 k (by omega))]
     exact ih.2 ⟨h1,fun i hi => h2 i (by omega)⟩
theorem mkB_ix {x : D.Block} {n : Int} : n ∈ mkB x ↔ (∃ i,i < x.Phis.length ∧ n = (ix x.Phis i).Dst) ∨ ∃ i,i < x.Ins.length ∧ n ∈ makes3 (ix x.Ins i) := by
 unfold mkB
 rw [List.mem_append]
 refine or_congr ⟨fun h => ?_,fun ⟨i,h1,h2⟩ => ?_⟩ ⟨fun h => ?_,fun ⟨i,h1,h2⟩ => ?_⟩
 · obtain ⟨p,h1,rfl⟩ := List.mem_map.1 h
   obtain ⟨i,hi,e⟩ := List.getElem_of_mem h1
   exact ⟨i,hi,by rw [ix_eq hi,e]⟩
 · rw [h2]; exact List.mem_map.2 ⟨_,ix_mem h1,rfl⟩
 · obtain ⟨p,h1,h2⟩ := List.mem_flatMap.1 h
   obtain ⟨i,hi,e⟩ := List.getElem_of_mem h1
   exact ⟨i,hi,by rw [ix_eq hi,e]; exact h2⟩
 · exact List.mem_flatMap.2 ⟨_,ix_mem h1,h2⟩
theorem bkA_no {bs : List D.Block} {n : Int} : ∀ {k : Nat},lkM (bkA bs k) n = none ↔ ∀ b,b < k → n ∉ mkB (ix bs b)
 | 0 => by simp [bkA,lkM]
 | k + 1 => by
   have ih := bkA_no (bs := bs) (n := n) (k := k)
   rw [bkA,inA_no,phA_no,ih]
   constructor
   · rintro ⟨⟨h1,h2⟩,h3⟩ b hb h4
     rcases Nat.lt_or_ge b k with h5 | h5
     · exact h1 b h5 h4
     · rw [show b = k by omega] at h4
       rcases mkB_ix.1 h4 with ⟨i,h6,h7⟩ | ⟨i,h6,h7⟩
       · exact h2 i h6 h7
       · exact h3 i h6 h7
   · intro h
     refine ⟨⟨fun b hb => h b (by omega),fun i hi e => h k (by omega) (mkB_ix.2 (.inl ⟨i,hi,e⟩))⟩,fun i hi e => h k (by omega) (mkB_ix.2 (.inr ⟨i,hi,e⟩))⟩
def PosAt (bs : List D.Block) (v : Int) (wb : Nat) (wp : Int) : Prop := wb < bs.length ∧ ((∃ i,i < (ix bs wb).Phis.length ∧ v = (ix (ix bs wb).Phis i).Dst ∧ wp = -1 - (i : Int)) ∨ ∃ i,i < (ix bs wb).Ins.length ∧ v ∈ makes3 (ix (ix bs wb).Ins i) ∧ wp = (i : Int))
structure Once (bs : List D.Block) : Prop where
 nd : ∀ j,(mkB (ix bs j)).Nodup
 dj : ∀ i j,i ≠ j → ∀ r ∈ mkB (ix bs i),r ∉ mkB (ix bs j)
theorem nodup_flat {α β : Type} [Inhabited α] {f : α → List β} : ∀ {l : List α},(l.flatMap f).Nodup → ∀ {i j : Nat},i < l.length → j < l.length → i ≠ j → ∀ x ∈ f (ix l i),x ∉ f (ix l j)
 | [],_,i,_,hi,_,_ => by cases hi
 | a :: l,h,i,j,hi,hj,hij => by
   rw [List.flatMap_cons,List.nodup_append] at h
   obtain ⟨h1,h2,h3⟩ := h
   intro x hx hx2
   have fl : ∀ {k : Nat},k < l.length → x ∈ f (ix l k) → x ∈ l.flatMap f := fun hk hx => List.mem_flatMap.2 ⟨_,ix_mem hk,hx⟩
   cases i with
   | zero =>
     cases j with
     | zero => exact hij rfl
     | succ j =>
       rw [ix_zero] at hx; rw [ix_cons] at hx2
       exact h3 x hx x (fl (by simpa using hj) hx2) rfl
   | succ i =>
     rw [ix_cons] at hx
     cases j with
     | zero => rw [ix_zero] at hx2; exact h3 x hx2 x (fl (by simpa using hi) hx) rfl
     | succ j => rw [ix_cons] at hx2; exact nodup_flat h2 (by simpa using hi) (by simpa using hj) (by omega) x hx hx2
theorem Once.phi {bs : List D.Block} (h : Once bs) {b i : Nat} (hi : i < (ix bs b).Phis.length) : lkM (phA b (ix bs b).Phis (bkA bs b) i) (ix (ix bs b).Phis i).Dst = none := by
 have hm : (ix (ix bs b).Phis i).Dst ∈ mkB (ix bs b) := mkB_ix.2 (.inl ⟨i,hi,rfl⟩)
 have hn := (List.nodup_append.1 (h.nd b)).1
 refine phA_no.2 ⟨bkA_no.2 fun c hc h1 => h.dj b c (by omega) _ hm h1,fun j hj e => ?_⟩
 have := nodup_inj hn (i := i) (j := j) (by simpa using hi) (by simp; omega) (by rw [List.getElem_map,List.getElem_map,← ix_eq hi,← ix_eq (show j < _ by omega)]; exact e)
 omega
theorem Once.ins {bs : List D.Block} (h : Once bs) {b i : Nat} (hi : i < (ix bs b).Ins.length) {n : Int} (hn : n ∈ makes3 (ix (ix bs b).Ins i)) : lkM (inA b (ix bs b).Ins (phA b (ix bs b).Phis (bkA bs b) (ix bs b).Phis.length) i) n = none := by
 have hm : n ∈ mkB (ix bs b) := mkB_ix.2 (.inr ⟨i,hi,hn⟩)
 obtain ⟨h1,h2,h3⟩ := List.nodup_append.1 (h.nd b)
 refine inA_no.2 ⟨phA_no.2 ⟨bkA_no.2 fun c hc h4 => h.dj b c (by omega) _ hm h4,fun j hj e => ?_⟩,fun j hj e => ?_⟩
 · exact h3 n (by rw [e]; exact List.mem_map.2 ⟨_,ix_mem hj,rfl⟩) n (List.mem_flatMap.2 ⟨_,ix_mem hi,hn⟩) rfl
 · exact nodup_flat h2 hi (by omega) (show i ≠ j by omega) n hn e
theorem Once.mks {bs : List D.Block} (h : Once bs) {b i : Nat} : (makes3 (ix (ix bs b).Ins i)).Nodup := by
 rcases Nat.lt_or_ge i (ix bs b).Ins.length with hi | hi
 · have h2 := (List.nodup_append.1 (h.nd b)).2.1
   have : ∀ {l : List D.Ins},(l.flatMap makes3).Nodup → ∀ x ∈ l,(makes3 x).Nodup := by
     intro l
     induction l with
     | nil => intro _ x hx; cases hx
     | cons a l ih =>
       intro h x hx
       rw [List.flatMap_cons,List.nodup_append] at h
       rcases List.mem_cons.1 hx with e | e
       · subst e; exact h.1
       · exact ih h.2.1 x e
   exact this h2 _ (ix_mem hi)
 · rw [ix_out (l := (ix bs b).Ins) hi]; exact (by decide : (makes3 (default : D.Ins)).Nodup)
theorem Once.at {bs : List D.Block} (h : Once bs) {v : Int} {wb : Nat} {wp : Int} (hp : PosAt bs v wb wp) : ∀ k,wb < k → lkM (bkA bs k) v = some (wv wb wp)
 | 0,hk => absurd hk (Nat.not_lt_zero _)
 | k + 1,hk => by
   obtain ⟨h1,h2⟩ := hp
   have hm : v ∈ mkB (ix bs wb) := by
     rcases h2 with ⟨i,h3,h4,_⟩ | ⟨i,h3,h4,_⟩
     · exact mkB_ix.2 (.inl ⟨i,h3,h4⟩)
     · exact mkB_ix.2 (.inr ⟨i,h3,h4⟩)
   have up : ∀ (l : List D.Ins) (b : Int) (L : List (Int × Value)) (m : Nat),(∀ i,i < m → v ∉ makes3 (ix l i)) → lkM (inA b l L m) v = lkM L v := by
     intro l b L m
     induction m with
     | zero => exact fun _ => rfl
     | succ m ih => exact fun h9 => by rw [inA,lk_insA,if_neg (h9 m (by omega)),ih (fun i hi => h9 i (by omega))]
   have upP : ∀ (l : List D.Phi) (b : Int) (L : List (Int × Value)) (m : Nat),(∀ i,i < m → v ≠ (ix l i).Dst) → lkM (phA b l L m) v = lkM L v := by
     intro l b L m
     induction m with
     | zero => exact fun _ => rfl
     | succ m ih => exact fun h9 => by rw [phA,lk_insA,if_neg (by simpa using h9 m (by omega)),ih (fun i hi => h9 i (by omega))]
   rcases Nat.lt_or_ge wb k with h3 | h3
   · have hno : v ∉ mkB (ix bs k) := h.dj wb k (by omega) v hm
     rw [bkA,up _ _ _ _ (fun i hi e => hno (mkB_ix.2 (.inr ⟨i,hi,e⟩))),upP _ _ _ _ (fun i hi e => hno (mkB_ix.2 (.inl ⟨i,hi,e⟩)))]
     exact h.at ⟨h1,h2⟩ k h3
   · have e : wb = k := by omega
     subst e
     obtain ⟨n1,n2,n3⟩ := List.nodup_append.1 (h.nd wb)
     rw [bkA]
     rcases h2 with ⟨i,h3,h4,h5⟩ | ⟨i,h3,h4,h5⟩
     · rw [up _ _ _ _ (fun j hj e => n3 v (by rw [h4]; exact List.mem_map.2 ⟨_,ix_mem h3,rfl⟩) v (List.mem_flatMap.2 ⟨_,ix_mem hj,e⟩) rfl)]
       have : ∀ m,i < m → m ≤ (ix bs wb).Phis.length → lkM (phA wb (ix bs wb).Phis (bkA bs wb) m) v = some (wv wb wp) := by
         intro m
         induction m with
         | zero => intro hm; cases hm
         | succ m ih =>
           intro hm hl
           rw [phA,lk_insA]
           rcases Nat.lt_or_ge i m with h6 | h6
           · rw [if_neg,ih h6 (by omega)]
             intro h7
             simp at h7
             have := nodup_inj n1 (i := i) (j := m) (by simpa using h3) (by simp; omega) (by rw [List.getElem_map,List.getElem_map,← ix_eq h3,← ix_eq (show m < _ by omega)]; exact h4.symm.trans h7)
             omega
           · have e : m = i := by omega
             subst e
             rw [if_pos (by simp [h4]),h5]
       exact this _ h3 (Nat.le_refl _)
     · have : ∀ m,i < m → m ≤ (ix bs wb).Ins.length → lkM (inA wb (ix bs wb).Ins (phA wb (ix bs wb).Phis (bkA bs wb) (ix bs wb).Phis.length) m) v = some (wv wb wp) := by
         intro m
         induction m with
         | zero => intro hm; cases hm
         | succ m ih =>
           intro hm hl
           rw [inA,lk_insA]
           rcases Nat.lt_or_ge i m with h6 | h6
           · rw [if_neg (fun h7 => nodup_flat n2 h3 (show m < _ by omega) (show i ≠ m by omega) v h4 h7),ih h6 (by omega)]
           · have e : m = i := by omega
             subst e
             rw [if_pos h4,h5]
       exact this _ h3 (Nat.le_refl _)
def shM (k : Int) : Option (Int × Int × Int × Int) := if k = 1 then some (0,0,1,1) else if k = 2 then some (1,1,2,2) else if k = 3 then some (1,1,2,65) else if k = 4 then some (0,1,0,0) else if k = 5 then some (0,0,0,0) else none
def US (f : D.Func) (v : Int) (b : Nat) (at' : Int) : Prop := (0 ≤ v ∧ v < f.Params) ∨ ∃ wb wp,PosAt f.Blocks v wb wp ∧ ((wb = b ∧ (wp < at' ∨ wp < 0)) ∨ (wb ≠ b ∧ ¬ RB (prG (graphF f)) wb b))
def cntF3 (bs : List D.Block) : Nat := (bs.map (fun b => b.Phis.length + b.Ins.length)).sum
structure GoodF (f : D.Func) : Prop where
 par : 0 ≤ f.Params ∧ f.Params ≤ 4
 len : 0 < f.Blocks.length ∧ f.Blocks.length ≤ 512
 cnt : f.Blocks.length + cntF3 f.Blocks ≤ 4096
 once : Once f.Blocks
 rng : ∀ b,b < f.Blocks.length → ∀ r ∈ mkB (ix f.Blocks b),f.Params ≤ r ∧ r ≤ 8191
 op : ∀ b,b < f.Blocks.length → ∀ i ∈ (ix f.Blocks b).Ins,(1 ≤ i.Op ∧ i.Op ≤ 18) ∧ (operM i.Op).1 ≤ (i.Args.length : Int) ∧ (i.Args.length : Int) ≤ (operM i.Op).2
 tm : ∀ b,b < f.Blocks.length → ∃ s,shM (ix f.Blocks b).Term.Kind = some s ∧ (s.1 ≤ ((ix f.Blocks b).Term.Args.length : Int) ∧ ((ix f.Blocks b).Term.Args.length : Int) ≤ s.2.1) ∧ (s.2.2.1 ≤ ((ix f.Blocks b).Term.To.length : Int) ∧ ((ix f.Blocks b).Term.To.length : Int) ≤ s.2.2.2)
 to : ∀ b,b < f.Blocks.length → ∀ t ∈ (ix f.Blocks b).Term.To,1 ≤ t ∧ t < f.Blocks.length
 reach : ∀ b,b < f.Blocks.length → ∃ w,RB (prG (graphF f)) w b
 fr : ∀ b,b < f.Blocks.length → ∀ p ∈ (ix f.Blocks b).Phis,0 < b ∧ p.In.map (fun x => x.From) = ix (predsG (graphF f)) b
 ui : ∀ b,b < f.Blocks.length → ∀ i,i < (ix f.Blocks b).Ins.length → ∀ v ∈ (ix (ix f.Blocks b).Ins i).Args,US f v b i
 ut : ∀ b,b < f.Blocks.length → ∀ v ∈ (ix f.Blocks b).Term.Args,US f v b (ix f.Blocks b).Ins.length
 up : ∀ b,b < f.Blocks.length → ∀ p ∈ (ix f.Blocks b).Phis,∀ x ∈ p.In,US f x.Val x.From.toNat (ix f.Blocks x.From.toNat).Ins.length
theorem ins_free {b p : Int} {l : List Int} {L : List (Int × Value)} {k : Nat} (hk : k < l.length) (hn : l.Nodup) (hL : ∀ n ∈ l,lkM L n = none) : lkM (insA b p (l.take k) L) (ix l k) = none := by
 rw [lk_insA,if_neg]
 · exact hL _ (ix_mem hk)
 · intro h
   obtain ⟨j,hj,e⟩ := List.getElem_of_mem h
   rw [List.getElem_take,ix_eq hk] at e
   rw [List.length_take] at hj
   have := nodup_inj hn (show j < l.length by omega) hk e
   omega
theorem ins_nx {b p : Int} {l : List Int} {L : List (Int × Value)} {k : Nat} (hk : k < l.length) : insA b p (l.take (k + 1)) L = upM (insA b p (l.take k) L) (ix l k) (wv b p) := by rw [take_ix hk,insA_app]
section
variable {f : D.Func} {b i : Nat}
theorem within_of {n a c : Int} (h : a ≤ n ∧ n ≤ c) : withinM n a c = true := by unfold withinM; simp [h]
theorem GoodF.pha (h : GoodF f) (hb : b < f.Blocks.length) (hi : i < (ix f.Blocks b).Phis.length) : (∀ n ∈ [(ix (ix f.Blocks b).Phis i).Dst],withinM n f.Params 8191 = true) ∧ [(ix (ix f.Blocks b).Phis i).Dst].Nodup ∧ ∀ n ∈ [(ix (ix f.Blocks b).Phis i).Dst],lkM (phA b (ix f.Blocks b).Phis (bkA f.Blocks b) i) n = none :=
 ⟨fun n hn => by simp at hn; subst hn; exact within_of (h.rng b hb _ (mkB_ix.2 (.inl ⟨i,hi,rfl⟩))),by simp,fun n hn => by simp at hn; subst hn; exact h.once.phi hi⟩
theorem GoodF.ina (h : GoodF f) (hb : b < f.Blocks.length) (hi : i < (ix f.Blocks b).Ins.length) : (∀ n ∈ makes3 (ix (ix f.Blocks b).Ins i),withinM n f.Params 8191 = true) ∧ (makes3 (ix (ix f.Blocks b).Ins i)).Nodup ∧ ∀ n ∈ makes3 (ix (ix f.Blocks b).Ins i),lkM (inA b (ix f.Blocks b).Ins (phA b (ix f.Blocks b).Phis (bkA f.Blocks b) (ix f.Blocks b).Phis.length) i) n = none :=
 ⟨fun n hn => within_of (h.rng b hb _ (mkB_ix.2 (.inr ⟨i,hi,hn⟩))),h.once.mks,fun n hn => h.once.ins hi hn⟩
def shL : List (Int × Value) := [(1,.agg #[.int .i64 0,.int .i64 0,.int .i64 1,.int .i64 1]),(2,.agg #[.int .i64 1,.int .i64 1,.int .i64 2,.int .i64 2]),(3,.agg #[.int .i64 1,.int .i64 1,.int .i64 2,.int .i64 65]),(4,.agg #[.int .i64 0,.int .i64 1,.int .i64 0,.int .i64 0]),(5,.agg #[.int .i64 0,.int .i64 0,.int .i64 0,.int .i64 0])]
theorem shL_at {k : Int} {s : Int × Int × Int × Int} (h : shM k = some s) : lkM shL k = some (.agg #[.int .i64 s.1,.int .i64 s.2.1,.int .i64 s.2.2.1,.int .i64 s.2.2.2]) := by
 unfold shM at h
 split at h
 · rename_i e; subst e; injection h with h; subst h; rfl
 split at h
 · rename_i e; subst e; injection h with h; subst h; rfl
 split at h
 · rename_i e; subst e; injection h with h; subst h; rfl
 split at h
 · rename_i e; subst e; injection h with h; subst h; rfl
 split at h
 · rename_i e; subst e; injection h with h; subst h; rfl
 · cases h
end
theorem use_ok {f : D.Func} {idom : List Int} {v block at' : Int} (hb : 0 ≤ block ∧ block < f.Blocks.length) (hD : DomG (graphF f) idom) {wb : Nat} {wp : Int} (hp : PosAt f.Blocks v wb wp) (h : (wb = block.toNat ∧ (wp < at' ∨ wp < 0)) ∨ (wb ≠ block.toNat ∧ ¬ RB (prG (graphF f)) wb block.toNat)) :
   ((wb : Int) = block ∧ (wp < at' ∨ wp < 0)) ∨ (¬ (wb : Int) = block ∧ dominM idom wb block = true) := by
 rcases h with ⟨h1,h2⟩ | ⟨h1,h2⟩
 · exact .inl ⟨by omega,h2⟩
 · refine .inr ⟨by omega,?_⟩
   have hl : (graphF f).length = f.Blocks.length := by simp [graphF]
   have := hD.2 wb block.toNat (by rw [hl]; exact hp.1) (by rw [hl]; omega) (.inr h2)
   rwa [Int.toNat_of_nonneg hb.1] at this
def idxA (l : List Int) (v : Int) : Nat → Nat → Int
 | 0,_ => -1
 | n + 1,k => if v = ix l k then k else idxA l v n (k + 1)
def idzM (l : List Int) (v : Int) : Int := idxA l v l.length 0
def conM (l : List Int) (v : Int) : Bool := decide (0 ≤ idzM l v)
theorem idxA_mem {l : List Int} {v : Int} : ∀ (n k : Nat),(∃ j,k ≤ j ∧ j < k + n ∧ v = ix l j) → 0 ≤ idxA l v n k
 | 0,k,⟨j,h1,h2,_⟩ => by omega
 | n + 1,k,⟨j,h1,h2,h3⟩ => by
   rw [idxA]; split
   · omega
   · rename_i h
     exact idxA_mem n (k + 1) ⟨j,by rcases Nat.lt_or_ge k j with h4 | h4; exact h4; exact absurd (by rw [show k = j by omega]; exact h3) h,by omega,h3⟩
theorem con_mem {l : List Int} {v : Int} (h : v ∈ l) : conM l v = true := by
 obtain ⟨j,hj,e⟩ := List.getElem_of_mem h
 have := idxA_mem (l := l) (v := v) l.length 0 ⟨j,Nat.zero_le _,by omega,by rw [ix_eq hj]; exact e.symm⟩
 unfold conM idzM; simpa using this
theorem idxA_no {l : List Int} {v : Int} {n k : Nat} (hk : k < n) (h : ¬ v = ix l k) : idxA l v (n - k) k = idxA l v (n - (k + 1)) (k + 1) := by
 rw [show n - k = (n - (k + 1)) + 1 by omega,idxA,if_neg h]
theorem idxA_yes {l : List Int} {v : Int} {n k : Nat} (hk : k < n) (h : v = ix l k) : idxA l v (n - k) k = k := by
 rw [show n - k = (n - (k + 1)) + 1 by omega,idxA,if_pos h]
section
variable {f : D.Func} {b i j : Nat}
theorem graph_len (f : D.Func) : (graphF f).length = f.Blocks.length := by simp [graphF]
theorem GoodF.gn (h : GoodF f) : 0 < (graphF f).length ∧ (graphF f).length ≤ 512 := by rw [graph_len]; exact h.len
theorem GoodF.gw (h : GoodF f) : ∀ b,b < (graphF f).length → ∃ w,RB (fun q t => (t : Int) ∈ ix (cleanM (graphF f)) q) w b := fun b hb => h.reach b (by rw [graph_len] at hb; exact hb)
theorem GoodF.in1 (h : GoodF f) (hb : b < f.Blocks.length) (hi : i < (ix f.Blocks b).Phis.length) : 0 < b ∧ (ix (ix f.Blocks b).Phis i).In.length = (ix (predsG (graphF f)) b).length := by
 have h1 := h.fr b hb _ (ix_mem hi)
 exact ⟨h1.1,by have := congrArg List.length h1.2; simpa using this⟩
theorem GoodF.in2 (h : GoodF f) (hb : b < f.Blocks.length) (hi : i < (ix f.Blocks b).Phis.length) (hj : j < (ix (ix f.Blocks b).Phis i).In.length) : (ix (ix (ix f.Blocks b).Phis i).In j).From = ix (ix (predsG (graphF f)) b) j ∧ 0 ≤ (ix (ix (ix f.Blocks b).Phis i).In j).From ∧ (ix (ix (ix f.Blocks b).Phis i).In j).From < f.Blocks.length := by
 have h1 := h.fr b hb _ (ix_mem hi)
 have h2 := (h.in1 hb hi).2
 have h3 : (ix (ix (ix f.Blocks b).Phis i).In j).From = ix (ix (predsG (graphF f)) b) j := by rw [← h1.2,ix_mapG hj]
 have h4 := preds_rng (ix_mem (l := ix (predsG (graphF f)) b) (i := j) (by omega))
 rw [graph_len,← h3] at h4
 exact ⟨h3,h4⟩
end
theorem cntF3_nx {bs : List D.Block} {k : Nat} (h : k < bs.length) : cntF3 (bs.take (k + 1)) = cntF3 (bs.take k) + ((ix bs k).Phis.length + (ix bs k).Ins.length) := by
 unfold cntF3; rw [take_ix h]; simp
theorem cntF3_le (bs : List D.Block) (k : Nat) : cntF3 (bs.take k) ≤ cntF3 bs := by
 have h := List.take_append_drop k bs
 have : cntF3 bs = cntF3 (bs.take k) + cntF3 (bs.drop k) := by
   unfold cntF3; conv => lhs; rw [← h]
   rw [List.map_append,List.sum_append]
 omega
theorem E188 : Ent Tryz.prog 188 := ⟨_,Tryz.func188,by kernel_rfl,by kernel_rfl⟩
theorem E189 : Ent Tryz.prog 189 := ⟨_,Tryz.func189,by kernel_rfl,by kernel_rfl⟩
theorem within_ct (n : Int) (a : Int) (b : Int) : Tv Tryz.prog 114 #[.int .i64 n,.int .i64 a,.int .i64 b] [] [] (.bool (withinM n a b)) := by
 refine jenter (args := [.int .i64 n,.int .i64 a,.int .i64 b]) Tryz.func114 rfl rfl rfl fun w0 X => ?_
 refine jq (jr (ja Z (jn (jx (jq (jr (jm Z (jm Z (js (jgeq Z Z) (jm Z (jg Z Z (.t _) (fun hg => jmv Z) ?_)))))))))))
 refine jg Z Z (.t _) (fun hg => jmv Z) (jg Z Z (.t _) (fun hg => jleq (evg Z hg) (evg Z hg)) (js (jand Z Z) (ja Z (jn (jx (jrt ?_))))))
 exact jrB Z Z (by unfold withinM; rfl)
theorem oper_ct (op : Int) : Tv Tryz.prog 162 #[.int .i64 op] [] [] (.tuple #[.int .i64 ((operM op).1),.int .i64 ((operM op).2)]) := by
 refine jenter (args := [.int .i64 op]) Tryz.func162 rfl rfl rfl fun w0 X => ?_
 refine jq (jr (ja Z (ja Z (jn (jx (jq (jq (jr (jm Z (jn (jx ?_)))))))))))
 refine jb (jq (jr (js (jeql Z Z) (ja Z (jn (jx ?_))))))
 refine jif Z (fun hc1 => ?_) (fun hc1 => ?_)
 refine jq (jr (ja Z (ja Z (jn (jx (jrt (jbr (jtr ?_))))))))
 exact jr2 Z Z Z () (tII (by first | (simp [operM, *]; done) | (unfold operM; (repeat' split) <;> first | rfl | (exfalso; omega) | simp_all))) dn (fun _ _ => kn)
 refine jq (jr (js (jeql Z Z) (ja Z (jn (jx ?_)))))
 refine jif Z (fun hc2 => ?_) (fun hc2 => ?_)
 refine jq (jr (ja Z (ja Z (jn (jx (jrt (jbr (jtr ?_))))))))
 exact jr2 Z Z Z () (tII (by first | (simp [operM, *]; done) | (unfold operM; (repeat' split) <;> first | rfl | (exfalso; omega) | simp_all))) dn (fun _ _ => kn)
 refine jq (jr (js (jeql Z Z) (ja Z (jn (jx ?_)))))
 refine jif Z (fun hc3 => ?_) (fun hc3 => ?_)
 refine jq (jr (ja Z (ja Z (jn (jx (jrt (jbr (jtr ?_))))))))
 exact jr2 Z Z Z () (tII (by first | (simp [operM, *]; done) | (unfold operM; (repeat' split) <;> first | rfl | (exfalso; omega) | simp_all))) dn (fun _ _ => kn)
 refine jsk (jbn (jx (jq (jr (ja Z (ja Z (jn (jx (jrt ?_)))))))))
 exact jr2 Z Z Z () (tII (by first | (simp [operM, *]; done) | (unfold operM; (repeat' split) <;> first | rfl | (exfalso; omega) | simp_all))) dn (fun _ _ => kn)
theorem kMakes_ct {a0 : Value} {i : D.Ins} : Td Tryz.prog 163 #[vIns i a0] [da rIns (vIns i a0) i] [] (rL (rI .i64)) (makes3 i) := by
 refine jenter (args := [vIns i a0]) Tryz.func163 rfl rfl rfl fun w0 X => ?_
 refine jq (jr (jbox Z Z fun g1 => ja Z (jn (jx (jq (jq (jr (js (jf F67_0 Z) (js (jl k0 O3 Z Z) (jn ?_))))))))))
 refine jx (jb (jq (jr (js (jeql Z Z) (ja Z (jn (jx ?_)))))))
 refine jif Z (fun hc1 => ?_) (fun hc1 => ?_)
 refine jq (jr (ja Z (jn (jx (jrt (jbr (jtr ?_)))))))
 exact jrD Z Z (by first | (simp [makes3, *]; done) | (unfold makes3; (repeat' split) <;> first | rfl | (exfalso; omega) | simp_all)) wN
 refine jq (jr (js (jeql Z Z) (ja Z (jn (jx ?_)))))
 refine jif Z (fun hc2 => ?_) (fun hc2 => ?_)
 refine jq (jr (js (jf F67_1 Z) (js (jl k0 O3 Z Z) (js (jf F67_2 Z) (js (jl k0 O3 Z Z) (jlit (r := (rI .i64)) (l := [i.Dst,i.Two]) U22 I3 (by decide) Z Z Z (lV Z Z (wI (rIns.W_Dst d0)) (lV Z Z (wI (rIns.W_Two d0)) ln)) fun g13 => ja Z (jn (jx (jrt (jbr ?_))))))))))
 refine jtr (qfz k0 (by (try simp) <;> omega) ?_)
 exact jrD Z Z (by first | (simp [makes3, *]; done) | (unfold makes3; (repeat' split) <;> first | rfl | (exfalso; omega) | simp_all)) d0
 refine jsk (jbn (jx (jq (jr (js (jf F67_1 Z) (js (jl k0 O3 Z Z) (jlit (r := (rI .i64)) (l := [i.Dst]) U22 I3 (by decide) Z Z Z (lV Z Z (wI (rIns.W_Dst d0)) ln) fun g16 => ja Z (jn (jx (jrt ?_))))))))))
 refine qfz k0 (by (try simp) <;> omega) ?_
 exact jrD Z Z (by first | (simp [makes3, *]; done) | (unfold makes3; (repeat' split) <;> first | rfl | (exfalso; omega) | simp_all)) d0
theorem common_ct {a0 : Value} {idom : List Int} {a1 : Value} {num : List Int} (a : Int) (b : Int) (hok : ComOK idom num a b) : Tv Tryz.prog 186 #[a0,a1,.int .i64 a,.int .i64 b] [dv (rL (rI .i64)) a0 idom,dv (rL (rI .i64)) a1 num] [] (.int .i64 (comM idom num a b)) := by
 refine jenter (args := [a0,a1,.int .i64 a,.int .i64 b]) Tryz.func186 rfl rfl rfl fun w0 X => ?_
 obtain ⟨n,pr,hg,hnl,hv,hc0⟩ := hok
 refine jq (jr (ja Z (jn (jx (jsc (jq (jlab (jx (jq (jb ?_))))))))))
 refine jlp (u3 fun (f : Nat) (a9 : Int) (b9 : Int) => ⟨CO n num idom a b a9 b9 ∧ comM idom num a b = comF idom num f a9 b9 ∧ (ix num a9.toNat).toNat + (ix num b9.toNat).toNat < f,[dv (rL (rI .i64)) a0 idom,dv (rL (rI .i64)) a1 num],[],[(0,a0),(1,a1),(2,.int .i64 a9),(3,.int .i64 b9),(8,.int .i64 0)],f⟩) ((ix num a.toNat).toNat + (ix num b.toNat).toNat + 1,a,b) ⟨hc0,rfl,Nat.lt_succ_self _⟩ (dc d0 (dc d1 dn)) kn ⟨Z,Z,Z,Z,Z,trivial⟩ ?_
 rintro ⟨f,a9,b9⟩; dsimp only [u3]; rintro ⟨hco,hcm,hfu⟩
 have ra := hco.ra
 have rb := hco.rb
 have na := (hg.rng a9.toNat (by omega))
 have nb := (hg.rng b9.toNat (by omega))
 have hil := hv.len
 refine jb (jb (jq (jstl Mixed (by kernel_rfl) (jt (jmv Z) (jt (jmv Z) (tdq d1 fun q1 w1 => jt (jix (i := (Int.toNat a9)) U22 Z3 d1 Z Z (by omega) (by omega)) (jt (jlI (dix d1 (Int.toNat a9) (by omega)) O3 Z) (jt (jmv Z) (jt (jmv Z) (jt (jix (i := (Int.toNat b9)) U22 Z3 d1 Z Z (by omega) (by omega)) ?_))))))))))
 refine jt (jlI (dix d1 (Int.toNat b9) (by omega)) O3 Z) (jt (jgtr Z Z) (jt (jas Z) (jdn (jx ?_))))
 refine jif Z (fun hc1 => ?_) (fun hc1 => ?_)
 refine jr (jm Z (jm Z (jdq d0 fun q2 w2 => js (jix (i := (Int.toNat a9)) U22 Z3 d0 Z Z (by omega) (by omega)) (js (jlI (dix d0 (Int.toNat a9) (by omega)) O3 Z) (ja Z (jn (jbn (jbn ?_))))))))
 exact jag (f - 1,ix idom (Int.toNat a9),b9) ⟨(hco.left hg hv (by omega)).1,by rw [hcm,comF_l (by omega) (by omega)],by have := (hco.left hg hv (by omega)).2; have := (hco.left hg hv (by omega)).1.ra; have := hg.rng _ (show (ix idom a9.toNat).toNat < n by omega); dsimp only; omega⟩ (dc d0 (dc d1 dn)) kn ⟨Z,Z,Z,Z,Z,trivial⟩
 refine jq (jstl Mixed (by kernel_rfl) (jt (jmv Z) (jt (jmv Z) (jt (jix (i := (Int.toNat b9)) U22 Z3 d1 Z Z (by omega) (by omega)) (jt (jlI (dix d1 (Int.toNat b9) (by omega)) O3 Z) (jt (jmv Z) (jt (jmv Z) (jt (jix (i := (Int.toNat a9)) U22 Z3 d1 Z Z (by omega) (by omega)) (jt (jlI (dix d1 (Int.toNat a9) (by omega)) O3 Z) (jt (jgtr Z Z) (jt (jas Z) ?_)))))))))))
 refine jdn (jx ?_)
 refine jif Z (fun hc2 => ?_) (fun hc2 => ?_)
 refine jr (jm Z (jm Z (jdq d0 fun q3 w3 => js (jix (i := (Int.toNat b9)) U22 Z3 d0 Z Z (by omega) (by omega)) (js (jlI (dix d0 (Int.toNat b9) (by omega)) O3 Z) (ja Z (jn (jbn (jbn ?_))))))))
 exact jag (f - 1,a9,ix idom (Int.toNat b9)) ⟨(hco.right hg hv (by omega)).1,by rw [hcm,comF_r (by omega) (by omega)],by have := (hco.right hg hv (by omega)).2; have := (hco.right hg hv (by omega)).1.rb; have := hg.rng _ (show (ix idom b9.toNat).toNat < n by omega); dsimp only; omega⟩ (dc d0 (dc d1 dn)) kn ⟨Z,Z,Z,Z,Z,trivial⟩
 refine jex (jbo (jbo (jtx (jbh (jx (jq (jr (jm Z (ja Z (jn (jx ?_)))))))))))
 refine jrt (jso ?_)
 exact jrI Z Z (by rw [hcm,comF_e (by omega) (by omega)])
theorem kept_ct {a0 : Value} {row : List Int} (n : Int) : Tg Tryz.prog 181 #[a0,.int .i64 n] [dv (rL (rI .i64)) a0 row] [] (rI .i64) 3 (keptM row n) := by
 refine jenter (args := [a0,.int .i64 n]) Tryz.func181 rfl rfl rfl fun w0 X => ?_
 refine jq (jr (ja Z (jn (jx (jq (jr (ja Z (jn (jx (jq (jq ?_)))))))))))
 refine jr (jm Z (jdq d0 fun q1 w1 => js (jln U22 d0 Z) (jm Z (jn (jx (jb (cnl (r := (rI .i64)) (E := 3) ?_)))))))
 refine jlp (u3 fun (k : Nat) (fs : List Int) (vo : Value) => ⟨k ≤ row.length ∧ fs = (row.take k).filter (fun b => decide (0 ≤ b) && decide (b < n)),[dv (rL (rI .i64)) a0 row],[gl X.n (rI .i64) 3 vo fs],[(1,.int .i64 n),(4,.slice none 0 0),(5,vo),(8,a0),(9,.int .i64 (↑(List.length row))),(10,.int .i64 (↑k))],row.length - k⟩) (0,[],.slice none 0 0) ⟨by dsimp only; omega,rfl⟩ (dc d0 dn) (kc k0 kn) ⟨Z,Z,Z,Z,Z,eqI (by omega),trivial⟩ ?_
 rintro ⟨k,fs,vo⟩; dsimp only [u3]; rintro ⟨hk,hfs⟩
 refine cgo k0 fun w2 => ?_
 have hfl : fs.length ≤ k := by rw [hfs]; exact Nat.le_trans (List.length_filter_le _ _) (by rw [List.length_take]; omega)
 refine jq (jr (js (jlss Z Z) (jn (jx (jq ?_)))))
 refine jif Z (fun hc1 => ?_) (fun hc1 => ?_)
 refine jsk (jx (jq (jb (jq (jr (js (jix U22 Z3 d0 Z Z Z (by omega)) (js (jlI (dix d0 k (by omega)) O3 Z) (ja Z (jn (jx (jq ?_)))))))))))
 refine jr (jm Z (js (jgeq Z Z) (jm Z (jg Z Z (.t _) (fun hg => jmv Z) (jg Z Z (.t _) (fun hg => jmv Z) (jg Z Z (.t _) (fun hg => jlss (evg Z hg) (evg Z hg)) (js (jand Z Z) (jn (jx ?_)))))))))
 refine jif Z (fun hc2 => ?_) (fun hc2 => ?_)
 refine jr (jm Z (jm Z (japv U22 I3 (by decide) Z Z k0 Z (wI (wad (dix d0 k (by omega)))) (by omega) (fun _ => Z) fun v24 _ w3 => ja Z (jn (jbn (jx (jr (js (jadd Z Z (by omega)) (jm Z (jn ?_))))))))))
 exact jag (k + 1,fs ++ [ix row k],v24) ⟨by dsimp only; omega,by dsimp only; rw [filt_nx (by omega),hfs,if_pos (by simp; omega)]⟩ (dc d0 dn) (kc k0 kn) ⟨Z,Z,Z,Z,Z,eqI (by omega),trivial⟩
 refine jsk (jbn (jx (jr (js (jadd Z Z (by omega)) (jm Z (jn ?_))))))
 exact jag (k + 1,fs,vo) ⟨by dsimp only; omega,by dsimp only; rw [filt_nx (by omega),hfs,if_neg (by simp; omega),List.append_nil]⟩ (dc d0 dn) (kc k0 kn) ⟨Z,Z,Z,Z,Z,eqI (by omega),trivial⟩
 refine jex (jtx (jtx (jbh (jx (jq (jr (jm Z (jc E188 Z Z (sortT (by omega)) dn (kc k0 kn) (fun _ => p0) (fun _ => p1) fun _ => jn (jx (jq ?_))))))))))
 refine jr (jm Z (jc E189 Z Z (compT (by unfold sortM; rw [List.length_mergeSort]; omega)) dn (kc k0 kn) (fun _ => p0) (fun _ => p1) fun v29 => jgo k0 fun w4 => ja Z (jn (jx (jrt ?_)))))
 exact jrG Z Z (by rw [keptM,hfs,List.take_of_length_le (by omega)]) k0
theorem E181 : Ent Tryz.prog 181 := ⟨_,Tryz.func181,by kernel_rfl,by kernel_rfl⟩
theorem clean_ct {a0 : Value} {g : List (List Int)} : Td Tryz.prog 182 #[a0] [dv (rL (rL (rI .i64))) a0 g] [] (rL (rL (rI .i64))) (cleanM g) := by
 refine jenter (args := [a0]) Tryz.func182 rfl rfl rfl fun w0 X => ?_
 refine jq (jr (ja Z (jn (jx (jq (jr (jm Z (jdq d0 fun q1 w1 => js (jln U125 d0 Z) (jmk (m := (List.length g)) (r := (rL (rI .i64))) U125 I22 Z Z Z Z Z (by omega) wN Z fun g8 => ja Z ?_)))))))))
 refine jn (jx (jq (jq (jr (jm Z (js (jln U125 d0 Z) (jm Z (jn (jx (jb ?_))))))))))
 refine jlp (u2 fun (k : Nat) (rs : List (List Int)) => ⟨k ≤ g.length ∧ rs = (cleanM g).take k ++ List.replicate (g.length - k) [],[dv (rL (rL (rI .i64))) a0 g],[gl X.n (rL (rI .i64)) 22 (.slice (some ⟨g8,0,none⟩) (List.length g) (List.length g)) rs],[(0,a0),(2,.slice none 0 0),(3,(.slice (some ⟨g8,0,none⟩) (List.length g) (List.length g))),(9,a0),(10,.int .i64 (↑(List.length g))),(11,.int .i64 (↑k))],g.length - k⟩) (0,List.replicate (List.length g) ([])) ⟨by dsimp only; omega,by simp⟩ (dc d0 dn) (kc k0 kn) ⟨Z,Z,Z,Z,Z,eqI (by omega),trivial⟩ ?_
 rintro ⟨k,rs⟩; dsimp only [u2]; rintro ⟨hk,hrs⟩
 have hfl : (cleanM g).length = g.length := by simp [cleanM,graphF]
 have hrl : rs.length = g.length := by rw [hrs,List.length_append,List.length_take,List.length_replicate]; omega
 refine jq (jr (js (jlss Z Z) (jn (jx (jq ?_)))))
 refine jif Z (fun hc1 => ?_) (fun hc1 => ?_)
 have hkl := kept_len (ix g k) g.length
 refine jsk (jx (jq (jb (jq (jr (jm Z (js (jix U125 Z22 d0 Z Z Z (by omega)) (jev (jlV (dix d0 k (by omega)) O22 Z Z) fun v15 q2 w2 => ja Z (ja Z (jn ?_))))))))))
 refine jx (jr (jm Z (jm Z (jm Z (jm Z (js (jln U125 d1 Z) (jcg E181 Z Z (kept_ct (↑(List.length g))) (dc d0 dn) kn fun v21 w4 => js (jig U125 Z22 k1 Z Z Z (by omega)) (jfz k0 (by (try simp) <;> omega) (jsg k0 Z Z22 Z Z w4.one (by omega) d0 (jn ?_))))))))))
 refine jbn (jx (jr (js (jadd Z Z (by omega)) (jm Z (jn ?_)))))
 exact jag (k + 1,List.set rs k (keptM (ix g k) (((List.length g : Nat) : Int)))) ⟨by dsimp only; omega,by dsimp only; rw [hrs]; exact row_put (by omega) (by omega) (by rw [cleanM,ix_mapG (by omega)])⟩ (dc d2 dn) (kc k0 kn) ⟨Z,Z,Z,Z,Z,eqI (by omega),trivial⟩
 refine jex (jtx (jtx (jbh (jx (jq (jr (jm Z (ja Z (jn (jx (jrt ?_)))))))))))
 refine qfz k0 (by omega) ?_
 exact jrD Z Z (by rw [hrs,List.take_of_length_le (by omega),show g.length - k = 0 by omega]; simp) d0
theorem graphOf_ct {a0 : Value} {f : D.Func} : Td Tryz.prog 165 #[vFunc f a0] [da rFunc (vFunc f a0) f] [] (rL (rL (rI .i64))) (graphF f) := by
 refine jenter (args := [vFunc f a0]) Tryz.func165 rfl rfl rfl fun w0 X => ?_
 refine jq (jr (jbox Z Z fun g1 => ja Z (jn (jx (jq (jr (js (jf F49_1 Z) (js (jl k0 O47 Z Z) (jdq (rFunc.cB d0) fun q1 w1 => js (jln U47 (rFunc.cB d0) Z) ?_)))))))))
 refine jmk (m := (List.length f.Blocks)) (r := (rL (rI .i64))) U125 I22 Z Z Z Z Z (by omega) wN Z fun g9 => ja Z (jn (jx (jq (jq (jr (js (jf F49_1 Z) (js (jl k1 O47 Z Z) (js (jln U47 (rFunc.cB d0) Z) (jm Z (jn ?_))))))))))
 refine jx (jb ?_)
 refine jlp (u2 fun (k : Nat) (rs : List (List Int)) => ⟨k ≤ f.Blocks.length ∧ rs = (graphF f).take k ++ List.replicate (f.Blocks.length - k) [],[da rFunc (vFunc f a0) f],[gl X.n (rL (rI .i64)) 22 (.slice (some ⟨g9,0,none⟩) (List.length f.Blocks) (List.length f.Blocks)) rs,bx g1 49 [.int .i64 f.Params,a0]],[(1,.pointer (some ⟨g1,0,none⟩)),(2,.slice none 0 0),(3,(.slice (some ⟨g9,0,none⟩) (List.length f.Blocks) (List.length f.Blocks))),(11,a0),(12,.int .i64 (↑(List.length f.Blocks))),(13,.int .i64 (↑k))],f.Blocks.length - k⟩) (0,List.replicate (List.length f.Blocks) ([])) ⟨by dsimp only; omega,by simp⟩ (dc d0 dn) (kd kn) ⟨Z,Z,Z,Z,Z,eqI (by omega),trivial⟩ ?_
 rintro ⟨k,rs⟩; dsimp only [u2]; rintro ⟨hk,hrs⟩
 have hfl : (graphF f).length = f.Blocks.length := by simp [cleanM,graphF]
 have hrl : rs.length = f.Blocks.length := by rw [hrs,List.length_append,List.length_take,List.length_replicate]; omega
 refine jq (jr (js (jlss Z Z) (jn (jx (jq ?_)))))
 refine jif Z (fun hc1 => ?_) (fun hc1 => ?_)
 have hkl := kept_len (ix f.Blocks k).Term.To f.Blocks.length
 refine jsk (jx (jq (jb (jq (jr (jm Z (js (jix U47 Z62 (rFunc.cB d0) Z Z Z (by omega)) (jA4 sBlock (jlA (dix (rFunc.cB d0) k (by omega)) A62 Z62 Z) fun c17a c17b c17c c17d => jalc J62 Z fun g5 => ja Z (jdq (rBlock.cP d0) fun q3 w3 => ?_)))))))))
 refine jdq (rBlock.cI d0) fun q4 w4 => jdq (rBlock.c_Term_Args d0) fun q5 w5 => jdq (rBlock.c_Term_To d0) fun q6 w6 => jsta k0 Z62 Z Z Z ⟨w3.one,w4.one,Z,w5.one,w6.one,Z,trivial⟩ (saf Z) (jn (jx (jr (jm Z (jm Z (js (jf F62_2 Z) (js (jf F60_2 Z) (js (jl k0 O22 Z Z) ?_))))))))
 refine js (jf F49_1 Z) (js (jl k2 O47 Z Z) (js (jln U47 (rFunc.cB d1) Z) (jcg E181 Z Z (kept_ct (↑(List.length f.Blocks))) (dc (rBlock.c_Term_To d0) dn) kn fun v26 w7 => js (jig U125 Z22 k2 Z Z Z (by omega)) (jfz k0 (by (try simp) <;> omega) (jsg k1 Z Z22 Z Z w7.one (by omega) d0 (jn (jbn (jx (jr (js (jadd Z Z (by omega)) ?_))))))))))
 refine jm Z (jn ?_)
 exact jag (k + 1,List.set rs k (keptM (((ix f.Blocks k).Term).To) (((List.length f.Blocks : Nat) : Int)))) ⟨by dsimp only; omega,by dsimp only; rw [hrs]; exact row_put (by omega) (by omega) (by rw [graphF,ix_mapG (by omega)])⟩ (dc d2 dn) (kc k0 (kc k1 kn)) ⟨Z,Z,Z,Z,Z,eqI (by omega),trivial⟩
 refine jex (jtx (jtx (jbh (jx (jq (jr (jm Z (ja Z (jn (jx (jrt ?_)))))))))))
 refine qfz k0 (by omega) ?_
 exact jrD Z Z (by rw [hrs,List.take_of_length_le (by omega),show f.Blocks.length - k = 0 by omega]; simp) d0
end Go.Proofs.YtmfkkodnghambaaGreat
namespace Go.JE
variable {P : Program} {D : List Dt} {L M : List Res} {e : Env} {H : Heap} {T T' E : TypeId} {x y : Operand} {p : Option Addr}
section
variable {α : Type} [Inhabited α] {r : Rp α} {F : PH} {v : Value} {l : List α} {B i off : Nat} {k : IntKind} {n : Int}
end
section
variable {Q : Exit → Act → World → Prop} {X : Cx} {w0 : World} {fn : Func} {m : Nat} {ι : Type} {val : ι → Value} {dr : ι → List Dt} {lr : Nat → ι → List Res} {N : List Res}
end
structure St2q (P : Program) (T : TypeId) (k : IntKind) : Prop where
 und : ∃ f0 f1, P.underlying T = some (.struct #[f0, f1]) ∧ f0.name ≠ "_" ∧ f1.name ≠ "_" ∧ f0.offset = 0 ∧ f1.offset = 1 ∧ P.underlying f0.type = some (.int k) ∧ P.underlying f1.type = some (.int k)
 stood : P.stoodInHeld T = false
 guard : P.eqGuardType P.depth T = false
end Go.JE
namespace Go.JE
variable {P : Program} {D Ds : List Dt} {L M Ls : List Res} {e : Env} {X : Cx} {n : Fs} {w0 : World} {Q : Exit → Act → World → Prop} {FS : PH}
variable {ops : Array Oper} {op : Op} {d : Nat} {ty : TypeId} {pos : String} {af : Array Edge} {rest l : List Oper} {z : Bool} {is : Od} {i : Nat}
theorem jgcF {D0 : List Dt} {L0 N : List Res} {f : FuncId} {g : Operand} {xs : List Operand} {vs cs : List Value} {ts : Array TypeId} {v : Value} {j t : Nat} {want B : Bool} {u : Value} (hj : (ops[j]?).bind (·.dst) = some t) (hu : lk e t = some u) (hB : Gd u want B) (hE : Ent P f) (hf : B = true → ev e g = some (.func (.func f) #[] cs.toArray)) (hl : B = true → evl e xs = some vs) (hT : B = true → Tr P f (vs ++ cs).toArray D0 L0 (fun _ : Unit => v) (fun _ => []) (fun _ _ => L0)) (hd : B = true → Sd D L D0) (hk : Tks L L0 M) (hq : Ap L0 M N)
   (k : LH P n w0 ops Q X D N ((d,gv B v) :: e) rest) (hd1 : Nat.blt d n.sz = true := by rfl) (ht : Nat.blt t n.sz = true := by rfl) : LH P n w0 ops Q X D L e (⟨some d,.call { callee := .value g,args := xs.toArray,argTypes := ts },ty,pos,af,some (j,want)⟩ :: rest) := fun F H h => by
 refine LF.gcallF hj hu hB (fun hb => OpCall.fnc hE (hf hb) (hl hb)) (fun hb => (hT hb).run h (hd hb) hk) (fun v' H' hz => ?_) hd1 ht
 rcases hz with ⟨hb,i,F',rfl,h2⟩ | ⟨hb,rfl⟩
 · exact k F' H' (hq ▸ h2)
 · subst hb
   refine k F H' (hq ▸ ⟨h.hx,h.hin,h.hw,h.hd,?_,fun k h1 => h.ge k (hk.own (Own.app.1 h1))⟩)
   obtain ⟨a,b,c⟩ := hk.ok h.ok
   exact Ok.app a b c
end Go.JE
namespace Go.Proofs.YtmfkkodnghambaaGreat
open Go.JE
theorem E187 : Ent Tryz.prog 187 := ⟨_,Tryz.func187,by kernel_rfl,by kernel_rfl⟩
theorem inR_ct (n : Int) {av : Value} {l : List Int} {g1 : Nat} : Tr Tryz.prog 187 #[.int .i64 n,.pointer (some ⟨g1,0,none⟩)] [dv (rL (rI .i64)) av l] [bx g1 22 [av]] (fun _ : Unit => .bool (inRn n l)) (fun _ => []) (fun _ _ => [bx g1 22 [av]]) := by
 refine jenter (args := [.int .i64 n,.pointer (some ⟨g1,0,none⟩)]) Tryz.func187 rfl rfl rfl fun w0 X => ?_
 refine jq (jr (ja Z (jn (jx (jq (jr (jm Z (js (jgeq Z Z) (jm Z (jg Z Z (.t _) (fun hg => jmv Z) (jg Z Z (.t _) (fun hg => jl k0 O22 Z Z) ?_)))))))))))
 refine jdq d0 fun q1 w1 => jg Z Z (.t _) (fun hg => jln U22 d0 (evg Z hg)) (jg Z Z (.t _) (fun hg => jlss (evg Z hg) (evg Z hg)) (js (jand Z Z) (ja Z (jn (jx (jrt ?_))))))
 exact jr1 Z Z () (congrArg Value.bool (Eq.symm (by unfold inRn inR; rfl))) dn (fun _ _ => (kc k0 kn))
theorem dominates_ct {a0 : Value} {idom : List Int} (a : Int) (b : Int) : Tv Tryz.prog 170 #[a0,.int .i64 a,.int .i64 b] [dv (rL (rI .i64)) a0 idom] [] (.bool (dominM idom a b)) := by
 refine jenter (args := [a0,.int .i64 a,.int .i64 b]) Tryz.func170 rfl rfl rfl fun w0 X => ?_
 refine jq (jr (jdq d0 fun q1 w1 => jbox Z w1.cells fun g3 => ja Z (jn (jx (jq (jr (js (jmf1 Z) (ja Z (jn ?_)))))))))
 refine jx (jq (jq (jr (jm Z (jm Z (jc E187 Z Z (inR_ct a) (dc d0 dn) (kc k0 kn) (fun _ => p0) (fun _ => p1) fun _ => js (jnot Z) (jm Z (jg Z Z (.f _) (fun hg => jmv Z) (jg Z Z (.f _) (fun hg => jmv Z) (jgcF Z Z (.f _) E187 (fun hg => evg Z hg) (fun hg => evl1 (evg Z hg)) (fun hg => (inR_ct b)) (fun hg => (dc d0 dn)) (kc k0 kn) p1 ?_))))))))))
 refine jg Z Z (.f _) (fun hg => jnot (evg Z hg)) (js (jor Z Z) (jn (jx ?_)))
 refine jif Z (fun hc1 => ?_) (fun hc1 => ?_)
 refine jq (jr (ja Z (jn (jx (jrt (jtr ?_))))))
 exact jrB Z Z (by first | (exact domN (by simpa using hc1)) | (rw [hdm,show idom.length + 1 - k = (idom.length - k) + 1 by omega,domF,if_pos hc3]) | (rw [hdm,show idom.length + 1 - k = (idom.length - k) + 1 by omega,domF,if_neg hc3,if_neg (inRn_no (by simpa using hc4))]) | (rw [hdm,show idom.length + 1 - k = 0 by omega]; rfl))
 have hia : inR idom a = true := by simp [inRn] at hc1; exact hc1.1
 have hib : inR idom b = true := by simp [inRn] at hc1; exact hc1.2
 refine jsk (jx (jq (jq (jr (js (jl k0 O22 Z Z) (js (jln U22 d0 Z) (js (jadd Z Z (by omega)) (jm Z (jn (jx (jb ?_)))))))))))
 refine jlp (u2 fun (k : Nat) (b9 : Int) => ⟨k ≤ idom.length + 1 ∧ dominM idom a b = domF idom a (idom.length + 1 - k) b9,[dv (rL (rI .i64)) a0 idom],[bx g3 22 [a0]],[(1,.int .i64 a),(2,.int .i64 b9),(3,.pointer (some ⟨g3,0,none⟩)),(7,.func (.func 187) #[] #[.pointer (some ⟨g3,0,none⟩)]),(21,.int .i64 ((↑(List.length idom)) + 1)),(22,.int .i64 (↑k))],idom.length + 1 - k⟩) (0,b) ⟨by dsimp only; omega,by dsimp only; rw [dominM,if_pos ⟨hia,hib⟩]; rfl⟩ (dc d0 dn) (kc k0 kn) ⟨Z,Z,Z,Z,Z,eqI (by omega),trivial⟩ ?_
 rintro ⟨k,b9⟩; dsimp only [u2]; rintro ⟨hk,hdm⟩
 refine jq (jr (js (jlss Z Z) (jn (jx (jq ?_)))))
 refine jif Z (fun hc2 => ?_) (fun hc2 => ?_)
 refine jsk (jx (jq (jb (jq (jq (jr (jm Z (jm Z (js (jeql Z Z) (jn (jx ?_)))))))))))
 refine jif Z (fun hc3 => ?_) (fun hc3 => ?_)
 refine jq (jr (ja Z (jn (jx (jrt (jtr (jbr (jtr (jtr (jbr (jtr ?_)))))))))))
 exact jrB Z Z (by first | (exact domN (by simpa using hc1)) | (rw [hdm,show idom.length + 1 - k = (idom.length - k) + 1 by omega,domF,if_pos hc3]) | (rw [hdm,show idom.length + 1 - k = (idom.length - k) + 1 by omega,domF,if_neg hc3,if_neg (inRn_no (by simpa using hc4))]) | (rw [hdm,show idom.length + 1 - k = 0 by omega]; rfl))
 refine jsk (jx (jq (jq (jr (jm Z (jm Z (jc E187 Z Z (inR_ct b9) (dc d0 dn) (kc k0 kn) (fun _ => p0) (fun _ => p1) fun _ => js (jnot Z) (jn (jx ?_)))))))))
 refine jif Z (fun hc4 => ?_) (fun hc4 => ?_)
 refine jq (jr (ja Z (jn (jx (jrt (jtr (jbr (jtr (jtr (jbr (jtr ?_)))))))))))
 exact jrB Z Z (by first | (exact domN (by simpa using hc1)) | (rw [hdm,show idom.length + 1 - k = (idom.length - k) + 1 by omega,domF,if_pos hc3]) | (rw [hdm,show idom.length + 1 - k = (idom.length - k) + 1 by omega,domF,if_neg hc3,if_neg (inRn_no (by simpa using hc4))]) | (rw [hdm,show idom.length + 1 - k = 0 by omega]; rfl))
 have hin9 := inRn_yes (by simpa using hc4)
 refine jsk (jx (jr (js (jl k0 O22 Z Z) (jm Z (js (jix (i := (Int.toNat b9)) U22 Z3 d0 Z Z (by omega) (by omega)) (js (jlI (dix d0 (Int.toNat b9) (by omega)) O3 Z) (ja Z (jn (jbn (jx (jr ?_)))))))))))
 refine js (jadd Z Z (by omega)) (jm Z (jn ?_))
 exact jag (k + 1,ix idom (Int.toNat b9)) ⟨by dsimp only; omega,by dsimp only; rw [hdm,show idom.length + 1 - k = (idom.length + 1 - (k + 1)) + 1 by omega,domF,if_neg (by assumption),if_pos (inRn_yes (by simpa using hc4))]⟩ (dc d0 dn) (kc k0 kn) ⟨Z,Z,Z,Z,Z,eqI (by omega),trivial⟩
 refine jex (jtx (jtx (jbh (jx (jq (jr (ja Z (jn (jx (jrt ?_))))))))))
 exact jrB Z Z (by first | (exact domN (by simpa using hc1)) | (rw [hdm,show idom.length + 1 - k = (idom.length - k) + 1 by omega,domF,if_pos hc3]) | (rw [hdm,show idom.length + 1 - k = (idom.length - k) + 1 by omega,domF,if_neg hc3,if_neg (inRn_no (by simpa using hc4))]) | (rw [hdm,show idom.length + 1 - k = 0 by omega]; rfl))
end Go.Proofs.YtmfkkodnghambaaGreat
namespace Go.JE
def pu (p : Prop) : Dt := ⟨fun _ => p,fun _ h => h⟩
variable {P : Program} {D : List Dt} {L M : List Res} {e : Env} {X : Cx} {n : Fs} {w0 : World} {Q : Exit → Act → World → Prop} {ops : Array Oper} {rest : List Oper} {p : Prop}
theorem wpu (h : p) : Nd D L (pu p) := fun _ _ _ _ _ => h
theorem jpu (h : Nd D L (pu p)) (k : p → LH P n w0 ops Q X D L e rest) : LH P n w0 ops Q X D L e rest := fun F H hp => k (h F H hp.hin hp.hd hp.ok) F H hp
end Go.JE
namespace Go.Proofs.YtmfkkodnghambaaGreat
open Go.JE
theorem E183 : Ent Tryz.prog 183 := ⟨_,Tryz.func183,by kernel_rfl,by kernel_rfl⟩
theorem O125 : One Tryz.prog 125 := ⟨_,Tryz.underlying125,rfl⟩
theorem O133 : One Tryz.prog 133 := ⟨_,Tryz.underlying133,rfl⟩
theorem over_step (a : Int) {va : Value} {se : List Bool} {n m : Nat} {g1 : Nat} {B1 : Nat} {vr : Value} {rows : List (List Int)} {g2 : Nat} {g3 : Nat} {vo : Value} {out : List Int} {g4 : Nat} {B4 : Nat} (ih : ∀ (a : Int) {se : List Bool} {out : List Int} {vo : Value},OP n rows se out a → cnt3 se < m → Tr Tryz.prog 183 #[.int .i64 a,.pointer (some ⟨g1,0,none⟩),.pointer (some ⟨g2,0,none⟩),.pointer (some ⟨g3,0,none⟩),.pointer (some ⟨g4,0,none⟩)] [dv (rL (rL (rI .i64))) vr rows] [gl B1 rB 4 va se,bx g1 129 [va],bx g2 125 [vr],bx g3 133 [.func (.func 183) #[] #[.pointer (some ⟨g1,0,none⟩),.pointer (some ⟨g2,0,none⟩),.pointer (some ⟨g3,0,none⟩),.pointer (some ⟨g4,0,none⟩)]],gl B4 (rI .i64) 3 vo out,bx g4 22 [vo]] (fun _ : Value × List Bool × List Int => .tuple #[]) (fun c => [pu (PO n rows se c.2.2 c.2.1 a)]) (fun _ c => [gl B1 rB 4 va c.2.1,bx g1 129 [va],bx g2 125 [vr],bx g3 133 [.func (.func 183) #[] #[.pointer (some ⟨g1,0,none⟩),.pointer (some ⟨g2,0,none⟩),.pointer (some ⟨g3,0,none⟩),.pointer (some ⟨g4,0,none⟩)]],gl B4 (rI .i64) 3 c.1 (out ++ c.2.2),bx g4 22 [c.1]])) (hP : OP n rows se out a) (hm : cnt3 se ≤ m) : Tr Tryz.prog 183 #[.int .i64 a,.pointer (some ⟨g1,0,none⟩),.pointer (some ⟨g2,0,none⟩),.pointer (some ⟨g3,0,none⟩),.pointer (some ⟨g4,0,none⟩)] [dv (rL (rL (rI .i64))) vr rows] [gl B1 rB 4 va se,bx g1 129 [va],bx g2 125 [vr],bx g3 133 [.func (.func 183) #[] #[.pointer (some ⟨g1,0,none⟩),.pointer (some ⟨g2,0,none⟩),.pointer (some ⟨g3,0,none⟩),.pointer (some ⟨g4,0,none⟩)]],gl B4 (rI .i64) 3 vo out,bx g4 22 [vo]] (fun _ : Value × List Bool × List Int => .tuple #[]) (fun c => [pu (PO n rows se c.2.2 c.2.1 a)]) (fun _ c => [gl B1 rB 4 va c.2.1,bx g1 129 [va],bx g2 125 [vr],bx g3 133 [.func (.func 183) #[] #[.pointer (some ⟨g1,0,none⟩),.pointer (some ⟨g2,0,none⟩),.pointer (some ⟨g3,0,none⟩),.pointer (some ⟨g4,0,none⟩)]],gl B4 (rI .i64) 3 c.1 (out ++ c.2.2),bx g4 22 [c.1]]) := by
 refine jenter (args := [.int .i64 a,.pointer (some ⟨g1,0,none⟩),.pointer (some ⟨g2,0,none⟩),.pointer (some ⟨g3,0,none⟩),.pointer (some ⟨g4,0,none⟩)]) Tryz.func183 rfl rfl rfl fun w0 X => ?_
 refine cgo k0 fun w1 => cgo k4 fun w2 => ?_
 have hal := hP.a0
 have hpl := hP.len
 have hrl := hP.rl
 have hn5 := hP.n512
 refine jq (jr (js (jl k1 O129 Z Z) (jm Z (js (jig (i := (Int.toNat a)) U129 Z4 k0 Z Z (by omega) (by omega)) (jsg k0 Z Z4 Z Z Z (by omega) wB (jn (jx (jq (jq (jr (js (jl k2 O125 Z Z) ?_)))))))))))
 refine jm Z (jdq d0 fun q3 w3 => js (jix (i := (Int.toNat a)) U125 Z22 d0 Z Z (by omega) (by omega)) (jev (jlV (dix d0 (Int.toNat a) (by omega)) O22 Z Z) fun v14 q4 w4 => js (jln U22 d0 Z) (jm Z (jn (jx (jb ?_))))))
 refine jlp (u5 fun (k : Nat) (se2 : List Bool) (l2 : List Int) (o2 : List Int) (vo2 : Value) => ⟨k ≤ (ix rows a.toNat).length ∧ OV n rows (se.set a.toNat true) l2 se2 (fun v => v ∈ (ix rows a.toNat)) ∧ (∀ t ∈ (ix rows a.toNat).take k,ix se2 t.toNat = true) ∧ o2 = out ++ l2,[dv (rL (rI .i64)) v14 (ix rows (Int.toNat a)),dv (rL (rL (rI .i64))) vr rows],[gl B1 rB 4 va se2,bx g1 129 [va],bx g2 125 [vr],bx g3 133 [.func (.func 183) #[] #[.pointer (some ⟨g1,0,none⟩),.pointer (some ⟨g2,0,none⟩),.pointer (some ⟨g3,0,none⟩),.pointer (some ⟨g4,0,none⟩)]],gl B4 (rI .i64) 3 vo2 o2,bx g4 22 [vo2]],[(0,.int .i64 a),(1,.pointer (some ⟨g1,0,none⟩)),(3,.pointer (some ⟨g3,0,none⟩)),(4,.pointer (some ⟨g4,0,none⟩)),(14,v14),(15,.int .i64 (↑(List.length (ix rows (Int.toNat a))))),(16,.int .i64 (↑k))],(ix rows a.toNat).length - k⟩) (0,List.set se (Int.toNat a) true,[],out,vo) ⟨by dsimp only; omega,OV.beg (by rw [List.length_set]; exact hP.len),(fun t h => by cases h),by simp⟩ (dc d0 (dc d1 dn)) (kd (kd (kd kn))) ⟨Z,Z,Z,Z,Z,Z,eqI (by omega),trivial⟩ ?_
 rintro ⟨k,se2,l2,o2,vo2⟩; dsimp only [u5]; rintro ⟨hk,hov,hdn,hoo⟩
 refine cgo k4 fun w6 => ?_
 have hsl := hov.len
 have hol : o2.length ≤ 512 := by rw [hoo]; exact hP.olen hov
 refine jq (jr (js (jlss Z Z) (jn (jx (jq ?_)))))
 refine jif Z (fun hc1 => ?_) (fun hc1 => ?_)
 have hr2 := hP.rows a.toNat (ix (ix rows a.toNat) k) (ix_mem (by omega))
 refine jsk (jx (jq (jb (jq (jr (js (jix U22 Z3 d0 Z Z Z (by omega)) (js (jlI (dix d0 k (by omega)) O3 Z) (ja Z (jn (jx (jq ?_)))))))))))
 refine jr (js (jl k1 O129 Z Z) (jm Z (js (jig (i := (Int.toNat (ix (ix rows (Int.toNat a)) k))) U129 Z4 k0 Z Z (by omega) (by omega)) (js (jgB k0 (by omega) O4 Z) (js (jnot Z) (jn (jx ?_)))))))
 refine jif Z (fun hc2 => ?_) (fun hc2 => ?_)
 have hP2 : OP n rows se2 o2 (ix (ix rows a.toNat) k) := by rw [hoo]; exact hP.next hov (ix_mem (l := ix rows a.toNat) (i := k) (by omega)) (by simpa using hc2)
 have hlt2 := Nat.lt_of_lt_of_le (hP.less hov) hm
 have hr2 := hP.rows a.toNat (ix (ix rows a.toNat) k) (ix_mem (by omega))
 refine jr (js (jl k3 O133 Z Z) (jm Z (jc E183 Z Z (ih (ix (ix rows (Int.toNat a)) k) hP2 hlt2) (dc d1 dn) (kd (kd (kd kn))) (fun _ => p1) (fun _ => p6) fun c27 => jpu d0 fun ho27 => jgo k4 fun w8 => jn (jbn (jx (jr (js (jadd Z Z (by omega)) (jm Z ?_))))))))
 refine jn ?_
 exact jag (k + 1,c27.2.1,l2 ++ c27.2.2,(o2 ++ c27.2.2),c27.1) ⟨by dsimp only; omega,hov.tr hP.rows (ho27.ov.weak (fun v h => by subst h; exact ix_mem (by omega))),by dsimp only; exact ov_next (by omega) hdn (fun t ht => hP.rows _ t ht) ho27.ov ho27.mem,by dsimp only; rw [hoo,List.append_assoc]⟩ (dc d1 (dc d2 dn)) (kd (kd (kd kn))) ⟨Z,Z,Z,Z,Z,Z,eqI (by omega),trivial⟩
 refine jsk (jbn (jx (jr (js (jadd Z Z (by omega)) (jm Z (jn ?_))))))
 exact jag (k + 1,se2,l2,o2,vo2) ⟨by dsimp only; omega,hov,by dsimp only; exact ov_seen (by omega) hdn (by simpa using hc2),hoo⟩ (dc d0 (dc d1 dn)) (kd (kd (kd kn))) ⟨Z,Z,Z,Z,Z,Z,eqI (by omega),trivial⟩
 refine jex (jtx (jtx (jbh (jx (jr (js (jl k5 O22 Z Z) (jm Z (japv U22 I3 (by decide) Z Z k4 Z (wI (wp (IntWalk.i64_in _ (by omega)))) (by omega) (fun _ => Z) fun v32 _ w9 => jst k5 Z22 Z Z w9.one s0 (jn ?_)))))))))
 exact jd0 Z (v32,se2,l2 ++ [a]) Z (dc (wpu ⟨⟨l2,rfl⟩,OV.done hP.len hP.a0 hP.no hov (fun t ht => hdn t (by rw [List.take_of_length_le (by omega)]; exact ht))⟩) dn) (fun _ _ => (kc k2 (kc k2 (kc k2 (kc k2 (kcg (by rw [hoo,List.append_assoc]) k1 (kc k0 kn)))))))
theorem E182 : Ent Tryz.prog 182 := ⟨_,Tryz.func182,by kernel_rfl,by kernel_rfl⟩
theorem E184 : Ent Tryz.prog 184 := ⟨_,Tryz.func184,by kernel_rfl,by kernel_rfl⟩
theorem Z125 : Sz Tryz.prog 125 1 := by unfold Sz; kernel_rfl
theorem Z133 : Sz Tryz.prog 133 1 := by unfold Sz; kernel_rfl
theorem J125 : (Tryz.prog.info? 125).bind (·.zero) = some (.slice none 0 0) := by kernel_rfl
theorem J129 : (Tryz.prog.info? 129).bind (·.zero) = some (.slice none 0 0) := by kernel_rfl
theorem J133 : (Tryz.prog.info? 133).bind (·.zero) = some (.nilFunc) := by kernel_rfl
theorem J22 : (Tryz.prog.info? 22).bind (·.zero) = some (.slice none 0 0) := by kernel_rfl
theorem over_ct {g1 g2 g3 g4 B1 B4 n : Nat} {va vr : Value} {rows : List (List Int)} : ∀ (k : Nat) (a : Int) {se : List Bool} {out : List Int} {vo : Value},OP n rows se out a → cnt3 se < k → Tr Tryz.prog 183 #[.int .i64 a,.pointer (some ⟨g1,0,none⟩),.pointer (some ⟨g2,0,none⟩),.pointer (some ⟨g3,0,none⟩),.pointer (some ⟨g4,0,none⟩)] [dv (rL (rL (rI .i64))) vr rows] [gl B1 rB 4 va se,bx g1 129 [va],bx g2 125 [vr],bx g3 133 [.func (.func 183) #[] #[.pointer (some ⟨g1,0,none⟩),.pointer (some ⟨g2,0,none⟩),.pointer (some ⟨g3,0,none⟩),.pointer (some ⟨g4,0,none⟩)]],gl B4 (rI .i64) 3 vo out,bx g4 22 [vo]] (fun _ : Value × List Bool × List Int => .tuple #[]) (fun c => [pu (PO n rows se c.2.2 c.2.1 a)]) (fun _ c => [gl B1 rB 4 va c.2.1,bx g1 129 [va],bx g2 125 [vr],bx g3 133 [.func (.func 183) #[] #[.pointer (some ⟨g1,0,none⟩),.pointer (some ⟨g2,0,none⟩),.pointer (some ⟨g3,0,none⟩),.pointer (some ⟨g4,0,none⟩)]],gl B4 (rI .i64) 3 c.1 (out ++ c.2.2),bx g4 22 [c.1]])
 | 0,_,_,_,_,_,h => absurd h (Nat.not_lt_zero _)
 | k + 1,a,_,_,_,hP,h => over_step (m := k) a (fun a _ _ _ hP h => over_ct k a hP h) hP (by omega)
theorem order_ct {a0 : Value} {g : List (List Int)} (hn : 0 < g.length ∧ g.length ≤ 512) (hw : ∀ b,b < g.length → ∃ w,RB (fun q t => (t : Int) ∈ ix (cleanM g) q) w b) : Tr Tryz.prog 166 #[a0] [dv (rL (rL (rI .i64))) a0 g] [] (fun c : Value × List Int => c.1) (fun c => [dv (rL (rI .i64)) c.1 c.2,pu (OD g.length (cleanM g) c.2)]) (fun _ _ => []) := by
 refine jenter (args := [a0]) Tryz.func166 rfl rfl rfl fun w0 X => ?_
 have hcr := clean_rng g
 have hcl := clean_len g
 have hP := op_beg (n := g.length) (rows := cleanM g) hn hcl hcr
 refine jq (jr (ja Z (jn (jx (jq (jq (jr (jm Z (jdq d0 fun q1 w1 => js (jln U125 d0 Z) (js (jeql Z Z) ?_))))))))))
 refine jn (jx ?_)
 refine jif Z (fun hc1 => ?_) (fun hc1 => ?_)
 exact absurd hc1 (by omega)
 refine jsk (jx (jq (jr (jm Z (jcd E182 Z Z clean_ct (dc d0 dn) kn fun v11 q2 w2 => jalc J125 Z fun g3 => jst k0 Z125 Z Z w2.one s0 (jn (jx (jq (jr ?_)))))))))
 refine jm Z (js (jln U125 d1 Z) (jmk (m := (List.length g)) (r := rB) U129 I4 Z Z Z Z Z (by omega) wB Z fun g14 => jalc J129 Z fun g4 => jst k0 Z129 Z Z Z s0 (jn (jx (jq (jr (jalc J22 Z fun g5 => jn (jx ?_))))))))
 refine jq (jr (jalc J133 Z fun g6 => jn (jx (jq (jr (js (jmf4 Z Z Z Z) (jst k0 Z133 Z Z Z s0 (jn (jx (jq ?_))))))))))
 refine jr (js (jl k0 O133 Z Z) (jnl (r := (rI .i64)) (E := 3) (jc E183 Z Z (over_ct (n := g.length) (rows := cleanM g) (cnt3 (List.replicate g.length false) + 1) 0 hP (Nat.lt_succ_self _)) (dc d0 dn) (kc k4 (kc k3 (kc k3 (kc k1 (kd kn))))) (fun _ => p1) (fun _ => p6) fun c17 => jpu d0 fun ho17 => jgo k4 fun w5 => ?_)))
 have hoP := ho17
 refine jn (jx (jq (jr (js (jl k5 O22 Z Z) (jc E184 Z Z (revT (by have := hoP.len hn.2; simpa using this)) dn (kc k4 kn) (fun _ => p0) (fun _ => p1) fun _ => jn (jx (jq (jr (js (jl k5 O22 Z Z) (ja Z ?_))))))))))
 refine jn (jx (jrt (qfz k0 (by have := hoP.len hn.2; simpa [revM] using this) ?_)))
 exact jr1 Z Z (c17.1,revM ([] ++ c17.2.2)) Z (dc d0 (dc (wpu (hoP.od hn.1 hcr hw)) dn)) (fun _ _ => kn)
end Go.Proofs.YtmfkkodnghambaaGreat
namespace Go.JE
variable {P : Program} {e : Env} {H : Heap}
theorem OpCh.imp {op : Op} {R R' : Value → Heap → Prop} (h : OpCh P e op H R) (hR : ∀ v H',R v H' → R' v H') : OpCh P e op H R' := by
 intro ρ o w ho hev hw
 obtain ⟨v,w',h1,h2,h3,h4,h5⟩ := h ρ o w ho hev hw
 exact ⟨v,w',h1,h2,h3,h4,hR _ _ h5⟩
theorem InH.none (H : Heap) : InH (fun _ => none) H := fun _ _ h => by cases h
def Mf (H : Heap) (g : Nat) (z : Value) (f : Int → Value) : Prop := ∃ L,Im H g L ∧ ∀ k,(lkM L k).getD z = f k
section
variable {g : Nat} {z : Value} {f : Int → Value}
theorem Mf.lt (h : Mf H g z f) : g < H.size := by obtain ⟨L,h,_⟩ := h; exact h.lt
theorem Mf.of {H' : Heap} (h : Mf H g z f) (hb : H'[g]? = H[g]?) : Mf H' g z f := by obtain ⟨L,h,h2⟩ := h; exact ⟨L,h.of hb,h2⟩
theorem Mf.kp {B : Nat} {H' : Heap} (h : Mf H g z f) (hk : Kp B H H') (hb : g < B) : Mf H' g z f := h.of (hk.2 g hb)
theorem Mf.new (h : Im H g []) : Mf H g z (fun _ => z) := ⟨[],h,fun _ => rfl⟩
end
section
variable {α : Type} {r : Rp α} {F : PH} {B : Nat} {v : Value} {l : List α}
theorem Gl.resl0 {E : TypeId} (h : Gl r E F H B v l) {hi : Nat} (h2 : hi ≤ l.length) : ∃ a c,JE.resl r.sz v 0 hi = .slice a hi c ∧ ((v = .slice none 0 0 ∧ hi = 0 ∧ a = none ∧ c = 0) ∨ ∃ g,a = some ⟨g,0,none⟩ ∧ v = .slice (some ⟨g,0,none⟩) l.length c) := by
 obtain ⟨xs,o1,_⟩ := h
 rcases o1.2 with ⟨e1,e2⟩ | ⟨g,cap,cur,e1,_⟩
 · subst e1
   obtain rfl : hi = 0 := by omega
   exact ⟨none,0,rfl,.inl ⟨rfl,rfl,rfl,rfl⟩⟩
 · subst e1
   refine ⟨some ⟨g,0,none⟩,cap,?_,.inr ⟨g,rfl,rfl⟩⟩
   simp only [JE.resl,Nat.sub_zero,Nat.zero_mul]
   split
   · rfl
   · simp [Addr.add_none]
theorem Gl.cut {E : TypeId} (h : Gl r E F H B v l) {hi : Nat} (h2 : hi ≤ l.length) : Gl r E F H B (JE.resl r.sz v 0 hi) (l.take hi) ∧ (JE.resl r.sz v 0 hi).ownBlock = v.ownBlock := by
 obtain ⟨a,c,e0,hc⟩ := h.resl0 h2
 rw [e0]
 have hl : (l.take hi).length = hi := by rw [List.length_take]; omega
 rcases hc with ⟨rfl,rfl,rfl,rfl⟩ | ⟨g,rfl,e1⟩
 · refine ⟨?_,rfl⟩
   rw [List.take_zero]; exact Gl.nil F H B
 · subst e1
   refine ⟨?_,rfl⟩
   obtain ⟨xs,o1,o2,o3⟩ := h
   rcases o1.2 with ⟨e2,_⟩ | ⟨g',cap,cur,e2,hb,hg,hc1,hc2,hc3,hc4⟩
   · cases e2
   cases e2
   refine ⟨xs.take (hi * r.sz),⟨?_,.inr ⟨g,c,cur,?_,hb,hg,?_,hc2,hc3,?_⟩⟩,o2,?_⟩
   · rw [List.length_take,o1.1,hl]; exact Nat.min_eq_left (Nat.mul_le_mul_right _ h2)
   · rw [hl]
   · rw [hl]; omega
   · rw [hl,← hc4,List.take_take,Nat.min_eq_left (Nat.mul_le_mul_right _ h2)]
   · intro i hi9
     rw [hl] at hi9
     rw [List.getElem_take]
     refine r.ext ?_ (o3 i (by omega))
     intro j hj
     have : i * r.sz + j < hi * r.sz := by
       have h5 : (i + 1) * r.sz ≤ hi * r.sz := Nat.mul_le_mul_right _ hi9
       rw [Nat.add_mul,Nat.one_mul] at h5; omega
     simp only [List.getD_eq_getElem?_getD,List.getElem?_take_of_lt this]
end
end Go.JE
namespace Go.JE
variable {P : Program} {n : Fs} {w0 : World} {Q : Exit → Act → World → Prop} {e : Env} {H : Heap}
abbrev RW (ro : Option Nat) : Fence := { Fence.wide with round := ro }
def NO (Q : Exit → Act → World → Prop) : Exit → Act → World → Prop
 | .outgrown,_,_ => False
 | x,a,w => Q x a w
theorem NO.imp {Q : Exit → Act → World → Prop} : ∀ (x : Exit) (a : Act) (w : World),NO Q x a w → Q x a w := fun x a w h => by
 cases x <;> first | exact h | exact (h : False).elim
theorem NO.lets {Q : Exit → Act → World → Prop} (h : LetsOut (NO Q)) : False := by obtain ⟨_,_,h⟩ := h; exact h
def noDefer (o : Oper) : Bool := match o.op with | .defer _ => false | _ => true
theorem callsRW {ro : Option Nat} {m : Nat} {f : FuncId} {args : Array Value} {w : World} {R : Ending → World → Prop} (h : Calls P f args w R) : CallsIn (RW ro) m P f args w R :=
 show CallsIn Fence.wide m P f args w R from callsIn_wide.2 h
theorem rowsRW {ro : Option Nat} {m : Nat} {row : String} {args : Array Value} {w : World} {R : Value → World → Prop} (h : Rows P row args w R) : RowsIn (RW ro) m P row args w R :=
 fun c cs _ => let ⟨v,w',r,s⟩ := h c cs; ⟨v,w',r,stepsIn_wide.2 s⟩
theorem uponRW {Q : Exit → Act → World → Prop} {ro : Option Nat} {m : Nat} {o : Oper} {a : Act} {next next' : Act → World → Prop} (hk : ∀ a w,next a w → next' a w) : ∀ r,o.upon P a next (NO Q) r → o.uponIn (RW ro) m P a next' (NO Q) r := by
 intro r h
 unfold Oper.upon at h
 unfold Oper.uponIn
 split at h
 · exact hk _ _ h
 · exact hk _ _ h
 · exact hk _ _ h
 · refine ⟨fun h0 => (by simp [Fence.wide] at h0),(callsRW h).mono fun x w' hx => ?_⟩
   cases x with
   | returned v => exact hk _ _ hx
   | panicked c => exact hx
   | outgrown => exact hx
 · exact ⟨fun h0 => (by simp [Fence.wide] at h0),(rowsRW h).mono fun v w' hx => hk _ _ hx⟩
 · exact h
 · exact h.elim
theorem listRW {Q : Exit → Act → World → Prop} {ro : Option Nat} {m : Nat} {ops : Array Oper} : ∀ (l : List Oper),l.all noDefer = true → ∀ a w,wpList P ops (NO Q) l a w → wpListIn (RW ro) m P ops (NO Q) l a w
 | [],_,_,_,h => h
 | o :: l,hd,a,w,h => by
   simp only [List.all_cons,Bool.and_eq_true] at hd
   have ih : ∀ a w,wpList P ops (NO Q) l a w → wpListIn (RW ro) m P ops (NO Q) l a w := listRW l hd.2
   simp only [wpList] at h
   simp only [wpListIn]
   split at h
   · rename_i hw
     rw [if_pos hw]
     rcases h with h | ⟨_,h⟩
     · refine ⟨fun _ _ => trivial,?_⟩
       rw [Oper.semAt_eq _ _ _ (fun c hc => by have := hd.1; simp [noDefer,hc] at this)]
       exact uponRW (fun a w h => ih a w h) _ h
     · exact (NO.lets h).elim
   · rename_i hw
     rw [if_neg hw]
     exact ⟨fun _ _ => trivial,ih _ _ h⟩
def RCF (P : Program) (n : Fs) (w0 : World) (ro : Option Nat) (m : Nat) (Q : Exit → Act → World → Prop) (e : Env) (c : Code) (H : Heap) : Prop :=
 ∀ a w,Fr n e a → Wd w0 H w → c.wpIn (RW ro) m P Q a w
section code
variable {x y : Code} {id : Nat} {l : List Oper} {ro : Option Nat} {m : Nat}
theorem RCF.region (h : LF P n w0 l.toArray (NO Q) e l H) (hd : l.all noDefer = true := by kernel_rfl) : RCF P n w0 ro m Q e (.region id l.toArray false) H :=
 fun a w hf hw => wpIn_mono (wpIn_region_lit (listRW l hd a w (h a w hf hw))) NO.imp
theorem RLF.nil {ops : Array Oper} (h : PF n w0 Q e .normal H) : LF P n w0 ops (NO Q) e [] H := fun a w hf hw => wpList_nil (h a w hf hw)
theorem RCF.seq (h : RCF P n w0 ro m (Exit.then (y.wpIn (RW ro) m P Q) Q) e x H) : RCF P n w0 ro m Q e (.seq x y) H := fun a w hf hw => wpIn_seq (h a w hf hw)
theorem RPF.next (h : RCF P n w0 ro m Q e y H) : PF n w0 (Exit.then (y.wpIn (RW ro) m P Q) Q) e .normal H := h
theorem RCF.block (h : RCF P n w0 ro m (Exit.inBlock id Q) e x H) : RCF P n w0 ro m Q e (.block id x) H := fun a w hf hw => wpIn_block (h a w hf hw)
theorem RCF.skip (h : PF n w0 Q e .normal H) : RCF P n w0 ro m Q e .skip H := fun a w hf hw => wpIn_skip (h a w hf hw)
theorem RCF.exit (h : PF n w0 Q e (.exit id) H) : RCF P n w0 ro m Q e (.exit id) H := fun a w hf hw => wpIn_exit (h a w hf hw)
theorem RCF.ret (h : PF n w0 Q e .ret H) : RCF P n w0 ro m Q e .ret H := fun a w hf hw => wpIn_ret (h a w hf hw)
theorem RCF.if {c : Operand} {b : Bool} {p q : Prop} (hc : ev e c = some (.bool b)) [hb : BoolP b p q] (ht : p → RCF P n w0 ro m Q e x H) (hf : q → RCF P n w0 ro m Q e y H) : RCF P n w0 ro m Q e (.cond c x y) H := by
 intro a w hfr hw
 exact wpIn_cond_split (hfr.ev hc) (fun h => ht (hb.pos h) a w hfr hw) (fun h => hf (hb.neg h) a w hfr hw)
theorem RCF.of (h : CF P n w0 Q e x H) : RCF P n w0 none m Q e x H := fun a w hf hw => show x.wpIn Fence.wide m P Q a w from wpIn_wide.2 (h a w hf hw)
theorem RCF.out (h : RCF P n w0 none m Q e x H) : CF P n w0 Q e x H := fun a w hf hw => (wpIn_wide (n := m)).1 (show x.wpIn Fence.wide m P Q a w from h a w hf hw)
theorem RCF.loop {ι : Type} (inv : ι → Heap → Prop) (env : ι → Env) (μ : ι → Nat) (i0 : ι) (h0 : inv i0 H) (hs : Sub e (env i0))
   (round : ∀ i H',inv i H' → RCF P n w0 ro m (Exit.then (Again n w0 inv env μ i) Q) (env i) x H') : RCF P n w0 ro m Q e (.loop x) H := by
 intro a w hf hw
 let I : Nat → Act → World → Prop := fun k a w => ∃ i,μ i = k ∧ inv i w.heap ∧ Fr n (env i) a ∧ Wd w0 w.heap w
 refine wpIn_loop (fun a w => ∃ k,I k a w) (fun a w => leastOf (fun k => I k a w)) ⟨μ i0,i0,rfl,hw.heap ▸ h0,hf.sub hs,⟨rfl,hw.os,hw.tape,hw.output⟩⟩ ?_
 intro a w hI
 obtain ⟨i,hm,hi,hfi,hwi⟩ := (leastOf_spec hI).1
 refine wpIn_mono (round i w.heap hi a w hfi hwi) ?_
 intro z a' w' hq
 cases z with
 | normal =>
   obtain ⟨j,h1,h2,h3,h4⟩ := hq
   have hJ : ∃ k,I k a' w' := ⟨μ j,j,rfl,h1,h2,h3⟩
   exact ⟨hJ,Nat.lt_of_le_of_lt ((leastOf_spec hJ).2 (μ j) ⟨j,rfl,h1,h2,h3⟩) (hm ▸ h4)⟩
 | exit id => exact hq
 | goto l => exact hq
 | ret => exact hq
 | panic ch => exact hq
 | outgrown => exact hq
end code
def OpYield (P : Program) (e : Env) (op : Op) (H : Heap) (l : Nat) (args : Array Value) : Prop :=
 ∀ (ρ : Operand → Value) (o : Oper) (w : World),o.op = op → (∀ x u,ev e x = some u → ρ x = u) → w.heap = H → (execOp ρ o).run P w = (Instr.yield l args).run P w
theorem OpYield.call {g : Operand} {l : Nat} {xs : List Operand} {vs : List Value} {ts : Array TypeId} (hf : ev e g = some (.func (.yield l) #[] #[])) (hl : evl e xs = some vs) :
   OpYield P e (.call { callee := .value g,args := xs.toArray,argTypes := ts }) H l vs.toArray := by
 intro ρ o w ho hev _
 have h1 : xs.toArray.map ρ = vs.toArray := by rw [← evl_map hev xs vs hl]; simp
 simp only [execOp,ho,resolve,h1,hev _ _ hf,Deferred.ofValue]
 simp only [Sem.run_bind,Sem.run_pure,Result.andThen_ok,invoke]
 simp
section yield
variable {ops : Array Oper} {op : Op} {d : Nat} {ty : TypeId} {pos : String} {af : Array Edge} {rest : List Oper} {m : Nat}
theorem yield_step {l : Nat} {args : Array Value} {R : Ending → World → Prop} {a : Act} {w : World} (hf : Fr n e a) (hw : w.heap = H) (h : OpYield P e op H l args) (hy : YieldAt (RW none) (m - 1) P l args w R)
   (hR : ∀ x w',R x w' → ∃ v,x = .returned v ∧ wpListIn (RW none) m P ops Q rest (a.put (some d) v) w') :
   wpListIn (RW none) m P ops Q (⟨some d,op,ty,pos,af,none⟩ :: rest) a w := by
 obtain ⟨fn,tmps,assign,body,h1,h2⟩ := hy
 refine wpListIn_plain rfl fun K hK => ?_
 refine ⟨fun _ _ => trivial,?_⟩
 have hs : (Oper.semAt (RW none).round a.eval ⟨some d,op,ty,pos,af,none⟩).run P w = .ok (.round l fn tmps assign body) w := by
   show (execOp a.eval ⟨some d,op,ty,pos,af,none⟩).run P w = _
   rw [h a.eval _ w rfl (fun x u hx => hf.ev hx) hw,h1]
 rw [hs]
 refine ⟨fun h0 => (by simp [Fence.wide] at h0),h2.mono fun x w' hx => ?_⟩
 obtain ⟨v,rfl,h3⟩ := hR x w' hx
 exact hK _ _ h3
end yield
def KeepsB (bl : List Nat) (W W' : World) : Prop := ∀ k ∈ bl,W'.heap[k]? = W.heap[k]?
def Iter {α : Type} (P : Program) (g : Nat) (lb : Array Value) (encs : α → Array Value) (bl : List Nat) (xs : List α) (H : Heap) : Prop :=
 ∀ w0 : World,w0.heap = H → SeqStopsK (RW none) 2 P g lb encs (KeepsB bl) (fun ys => ys = xs) (fun _ => True) xs.length w0
def RQ {α : Type} (w0 : World) (H : Heap) (bl : List Nat) (inv : List α → Heap → Prop) (ys : List α) (Hs : Heap) : Exit → Act → World → Prop
 | .normal,_,w => Wd w0 w.heap w ∧ Hs.size ≤ w.heap.size ∧ (∀ k,H.size ≤ k → k < Hs.size → w.heap[k]? = Hs[k]?) ∧ (∀ k ∈ bl,w.heap[k]? = Hs[k]?) ∧ inv ys w.heap
 | _,_,_ => False
theorem PF.round {α : Type} {bl : List Nat} {inv : List α → Heap → Prop} {ys : List α} {Hs H' : Heap} (h1 : Hs.size ≤ H'.size) (h2 : ∀ k,H.size ≤ k → k < Hs.size → H'[k]? = Hs[k]?) (h3 : ∀ k ∈ bl,H'[k]? = Hs[k]?) (h4 : inv ys H') :
   PF n w0 (RQ w0 H bl inv ys Hs) e .normal H' := by
 intro a w hf hw
 rw [← hw.heap] at h1 h2 h3 h4
 exact ⟨⟨rfl,hw.os,hw.tape,hw.output⟩,h1,h2,h3,h4⟩
def AQ (n : Fs) (w0 : World) (l : Env) (H : Heap) : Exit → Act → World → Prop
 | .normal,a,w => Fr n l a ∧ Wd w0 H w
 | _,_,_ => False
theorem PF.assigned {l : Env} (hs : Sub e l) : PF n w0 (AQ n w0 l H) e .normal H := fun _ _ hf hw => ⟨hf.sub hs,hw⟩
def laid (e : Env) : List Nat → List Value → Env
 | p :: ps,v :: vs => laid ((p,v) :: e) ps vs
 | _,_ => e
theorem laid_fr {m : Nat} : ∀ (ps : List Nat) (vs : List Value) (e : Env) (t : Array Value),ps.all (fun p => Nat.blt p m) = true → Fr ⟨m,[]⟩ e { tmps := t,defers := [] } →
   Fr ⟨m,[]⟩ (laid e ps vs) { tmps := (ps.zip vs).foldl (fun t p => t.setIfInBounds p.1 p.2) t,defers := [] }
 | [],[],_,_,_,h => h
 | [],_ :: _,_,_,_,h => h
 | _ :: _,[],_,_,_,h => h
 | p :: ps,v :: vs,e,t,hp,h => by
   simp only [List.all_cons,Bool.and_eq_true] at hp
   exact laid_fr ps vs ((p,v) :: e) _ hp.2 (h.put (n := ⟨m,[]⟩) hp.1 v)
abbrev Fs.mark (n : Fs) (D : Nat) : Fs := ⟨n.sz,{ target := .collected D,args := #[] } :: n.ds⟩
theorem CF.rangeFunc {α : Type} {g : Operand} {ps : List Nat} {assign body : Code} {gf : Nat} {lb : Array Value} {encs : α → List Value} {bl : List Nat} {xs : List α} (envx : α → Env)
   (inv : List α → Heap → Prop) (hg : ev e g = some (.func (.func gf) #[] lb)) (hE : Ent P gf) (hit : Iter P gf lb (fun x => (encs x).toArray) bl xs H) (hbl : ∀ k ∈ bl,k < H.size) (hlen : ∀ x,(encs x).length = ps.length)
   (hps : ps.all (fun p => Nat.blt p n.sz) = true)
   (hinv : ∀ pre H1 H2,inv pre H1 → H1.size ≤ H2.size → (∀ k,k < H.size → H2[k]? = H1[k]?) → inv pre H2) (h0 : inv [] H)
   (hassign : ∀ (l : Nat) (x : α) (H' : Heap),RCF P ⟨n.sz,[]⟩ w0 (some l) 1 (AQ ⟨n.sz,[]⟩ w0 (envx x) H') (laid e ps (encs x)) assign H')
   (hbody : ∀ (l : Nat) (pre : List α) (x : α) (H' : Heap),inv pre H' → pre.length < xs.length → H.size ≤ H'.size → RCF P ⟨n.sz,[]⟩ w0 (some l) 1 (RQ w0 H bl inv (pre ++ [x]) H') (envx x) body H')
   (hdone : ∀ (D : Nat) (H' : Heap),inv xs H' → H.size ≤ D → H.size ≤ H'.size → H'[D]? = some (.deferred (some [])) → PF (n.mark D) w0 Q e .normal H') :
   CF P n w0 Q e (.rangeFunc g ps.toArray assign body) H := by
 refine RCF.out (m := 3) fun a w hf hw => ?_
 have hw' := hw.heap
 have hB : w.heap.size = H.size := by rw [hw']
 refine wpIn_rangeFunc_ownH (α := α) (F := RW none) (n := 3) (gf := gf) (lb := lb) (encs := fun x => (encs x).toArray) (Kp := KeepsB bl) (S := fun ys => ys = xs) (Sp := fun _ => True) (N := xs.length) (w0 := w)
   rfl (by decide) (hf.ev hg) trivial (fun args w => hE.run args w) (hit w hw') (fun h1 h2 k hk => (h2 k hk).trans (h1 k hk))
   (fun W l o o' hl ho _ _ k hk => World.putObj_heap_other (by have := hbl k hk; omega)) (RowKit.Below.refl _ _) (fun x => by simp [hlen])
   (fun pre W => Wd w0 W.heap W ∧ H.size ≤ W.heap.size ∧ inv pre W.heap) (fun _ _ _ => False) ?own (fun _ _ _ _ _ h _ _ => h) ⟨⟨rfl,hw.os,hw.tape,hw.output⟩,by omega,by rw [hw']; exact h0⟩
   (fun x a' _ => Fr ⟨n.sz,[]⟩ (envx x) a') (fun _ _ _ _ _ _ h _ _ => h) ?assign ?body ?done ?stop
 case own =>
   rintro pre W W' row ⟨h1,h2,h3⟩ hg' hr
   refine ⟨⟨rfl,hg'.os.trans h1.os,hg'.tape.trans h1.tape,hg'.output.trans h1.output⟩,Nat.le_trans h2 hg'.size,hinv pre _ _ h3 hg'.size fun k hk => ?_⟩
   exact hg'.block k (by omega) (fun e1 => by have := (hr k e1.symm).1; omega)
 case assign =>
   rintro l pre x W K ⟨h1,h2,h3⟩ hK
   have hfr : Fr ⟨n.sz,[]⟩ (laid e ps (encs x)) { tmps := (ps.toArray.zip (encs x).toArray).foldl (fun t p => t.setIfInBounds p.1 p.2) a.tmps,defers := [] } := by
     have := laid_fr ps (encs x) e a.tmps hps ⟨hf.size,rfl,hf.get⟩
     simpa using this
   refine wpIn_mono (hassign l x W.heap _ W hfr h1) ?_
   intro z a' W' hz
   cases z with
   | normal =>
     obtain ⟨h4,h5⟩ := hz
     have h6 : W'.heap = W.heap := h5.heap
     exact hK a' W' ⟨by rw [h6]; exact Nat.le_refl _,fun k o _ hk _ => by rw [h6]; exact hk⟩ (fun k _ => by rw [h6]) ⟨⟨rfl,h5.os,h5.tape,h5.output⟩,by rw [h6]; exact h2,by rw [h6]; exact h3⟩ h4
   | _ => exact hz
 case body =>
   rintro l pre x a' W _ _ ⟨h1,h2,h3⟩ hfr hlt
   refine wpIn_mono (hbody l pre x W.heap h3 hlt h2 a' W hfr h1) ?_
   intro z a2 W' hz
   cases z with
   | normal =>
     obtain ⟨h4,h5,h6,h7,h8⟩ := hz
     exact ⟨⟨h5,fun k o hk ho _ => (h6 k (by omega) (Array.getElem?_eq_some_iff.1 ho).1).trans ho⟩,h7,h4,Nat.le_trans h2 h5,h8⟩
   | _ => exact hz.elim
 case done =>
   rintro D ys W hD rfl ⟨h1,h2,h3⟩ hK
   exact hdone D W.heap h3 (by omega) h2 hK _ W ⟨hf.size,by simp [hf.defers],hf.get⟩ h1
 case stop =>
   rintro D c pre W _ _ h _
   exact h.elim
section func
variable {f : FuncId} {fn : Func} {c : Code} {R : Value → Heap → Prop}
def BQM (P : Program) (fn : Func) (w0 : World) (R : Value → Heap → Prop) : Exit → Act → World → Prop :=
 bodyPostM Fence.wide 3 P fn fun x w' => ∃ v,x = .returned v ∧ w'.os = w0.os ∧ w'.tape = w0.tape ∧ w'.output = w0.output ∧ R v w'.heap
theorem Ct.enterM {args : List Value} {n : Nat} (hf : P.funcs[f]? = some fn) (hb : fn.body = some c) (hn : fn.ntmps = n) (ha : Nat.ble args.length n = true)
   (h : ∀ w0 : World,w0.heap = H → CF P ⟨n,[]⟩ w0 (BQM P fn w0 R) (number 0 args) c H) : Ct P f args.toArray H R := by
 intro w hw
 refine callsIn_wide.1 (callsIn_of_wp_marks (n := 3) hf hb trivial ?_ rfl)
 have ha' : args.length ≤ n := by simpa [Nat.ble_eq] using ha
 refine wpIn_wide.2 (h w hw _ w ⟨?_,rfl,?_⟩ ⟨hw,rfl,rfl,rfl⟩)
 · simp [hn]; omega
 · intro t v hv
   obtain ⟨i,h1,h2⟩ := lk_number args 0 t v hv
   have hi : i < args.length := (List.getElem?_eq_some_iff.1 h2).1
   have e1 : t = i := by omega
   subst e1
   simp only [Array.getD_eq_getD_getElem?]
   rw [Array.getElem?_append_left (by simpa using hi)]
   simp [h2]
def puto (H : Heap) (D : Nat) (o : Obj) : Heap := H.setIfInBounds D o
theorem PF.ret1M {m D t : Nat} {v : Value} (hr : fn.results = #[.tmp t]) (hv : lk e t = some v) (hD : H[D]? = some (.deferred (some []))) (hR : R v (puto H D (.deferred none))) : PF (Fs.mark ⟨m,[]⟩ D) w0 (BQM P fn w0 R) e .ret H := by
 intro a w hf hw
 have hd := hf.defers
 have hD' : w.heap[D]? = some (.deferred (some [])) := by rw [hw.heap]; exact hD
 show LeavesInM Fence.wide 3 P fn a.tmps _ a.defers .returning w
 rw [hd]
 refine ⟨by simp,.inl ⟨_,_,rfl,run_takeDeferred hD',?_⟩⟩
 refine ⟨v,?_,?_⟩
 · rw [results_tmp hr,hf.get t v hv]
 · exact ⟨v,rfl,hw.os,hw.tape,hw.output,by show R v (w.heap.setIfInBounds D _); rw [hw.heap]; exact hR⟩
end func
end Go.JE
namespace Go.JE
variable {P : Program} {n : Fs} {Q : Exit → Act → World → Prop} {e : Env} {w : World} {m : Nat}
def YL (P : Program) (n : Fs) (ops : Array Oper) (Q : Exit → Act → World → Prop) (m : Nat) (e : Env) (l : List Oper) (w : World) : Prop := ∀ a,Fr n e a → wpListIn (RW none) m P ops Q l a w
def YC (P : Program) (n : Fs) (Q : Exit → Act → World → Prop) (m : Nat) (e : Env) (c : Code) (w : World) : Prop := ∀ a,Fr n e a → c.wpIn (RW none) m P Q a w
def YP (n : Fs) (Q : Exit → Act → World → Prop) (e : Env) (x : Exit) (w : World) : Prop := ∀ a,Fr n e a → Q x a w
section ops
variable {ops : Array Oper} {op : Op} {d : Nat} {ty : TypeId} {pos : String} {af : Array Edge} {rest : List Oper} {v : Value}
theorem YL.nil (h : YP n Q e .normal w) : YL P n ops Q m e [] w := fun a hf => wpListIn_nil (h a hf)
theorem YL.step (h : OpOk P e op w.heap v) (K : YL P n ops Q m ((d,v) :: e) rest w) (hd : Nat.blt d n.sz = true := by rfl) (hn : noDefer ⟨some d,op,ty,pos,af,none⟩ = true := by rfl) :
   YL P n ops Q m e (⟨some d,op,ty,pos,af,none⟩ :: rest) w := by
 intro a hf
 refine wpListIn_plain rfl fun K' hK' => ⟨fun _ _ => trivial,?_⟩
 rw [Oper.semAt_eq _ _ _ (fun c hc => by simp only at hc; subst hc; cases hn),h a.eval _ w rfl (fun x u hx => hf.ev hx) rfl]
 exact hK' _ _ (K _ (hf.put hd v))
theorem YL.gstep {j t : Nat} {want B : Bool} {u : Value} (hj : (ops[j]?).bind (·.dst) = some t) (hu : lk e t = some u) (hB : Gd u want B) (h : B = true → OpOk P e op w.heap v) (K : YL P n ops Q m ((d,gv B v) :: e) rest w)
   (hd : Nat.blt d n.sz = true := by rfl) (ht : Nat.blt t n.sz = true := by rfl) (hn : noDefer ⟨some d,op,ty,pos,af,some (j,want)⟩ = true := by rfl) :
   YL P n ops Q m e (⟨some d,op,ty,pos,af,some (j,want)⟩ :: rest) w := by
 intro a hf
 have hwt := wanted_gd (o := ⟨some d,op,ty,pos,af,some (j,want)⟩) rfl hj ht hf hu hB
 simp only [wpListIn]
 rw [hwt]
 cases B with
 | true =>
   rw [if_pos rfl]
   refine ⟨fun _ _ => trivial,?_⟩
   rw [Oper.semAt_eq _ _ _ (fun c hc => by simp only at hc; subst hc; cases hn),h rfl a.eval _ w rfl (fun x u hx => hf.ev hx) rfl]
   exact K _ (hf.put hd v)
 | false =>
   rw [if_neg (by decide)]
   exact ⟨fun _ _ => trivial,K _ (hf.put hd undef)⟩
theorem YL.yield {l : Nat} {args : Array Value} {R : Ending → World → Prop} (h : OpYield P e op w.heap l args) (hy : YieldAt (RW none) (m - 1) P l args w R)
   (K : ∀ x w',R x w' → ∃ v,x = .returned v ∧ YL P n ops Q m ((d,v) :: e) rest w') (hd : Nat.blt d n.sz = true := by rfl) :
   YL P n ops Q m e (⟨some d,op,ty,pos,af,none⟩ :: rest) w := by
 intro a hf
 refine yield_step hf rfl h hy fun x w' hx => ?_
 obtain ⟨v,rfl,h2⟩ := K x w' hx
 exact ⟨v,rfl,h2 _ (hf.put hd v)⟩
end ops
section code
variable {x y : Code} {id : Nat} {l : List Oper}
theorem YC.region (h : YL P n l.toArray Q m e l w) : YC P n Q m e (.region id l.toArray false) w := fun a hf => wpIn_region_lit (h a hf)
theorem YC.seq (h : YC P n (Exit.then (y.wpIn (RW none) m P Q) Q) m e x w) : YC P n Q m e (.seq x y) w := fun a hf => wpIn_seq (h a hf)
theorem YP.next (h : YC P n Q m e y w) : YP n (Exit.then (y.wpIn (RW none) m P Q) Q) e .normal w := h
theorem YC.block (h : YC P n (Exit.inBlock id Q) m e x w) : YC P n Q m e (.block id x) w := fun a hf => wpIn_block (h a hf)
theorem YC.skip (h : YP n Q e .normal w) : YC P n Q m e .skip w := fun a hf => wpIn_skip (h a hf)
theorem YC.exit (h : YP n Q e (.exit id) w) : YC P n Q m e (.exit id) w := fun a hf => wpIn_exit (h a hf)
theorem YC.ret (h : YP n Q e .ret w) : YC P n Q m e .ret w := fun a hf => wpIn_ret (h a hf)
theorem YC.if {c : Operand} {b : Bool} {p q : Prop} (hc : ev e c = some (.bool b)) [hb : BoolP b p q] (ht : p → YC P n Q m e x w) (hf : q → YC P n Q m e y w) : YC P n Q m e (.cond c x y) w := by
 intro a hfr
 exact wpIn_cond_split (hfr.ev hc) (fun h => ht (hb.pos h) a hfr) (fun h => hf (hb.neg h) a hfr)
theorem YP.thenExit {K : Act → World → Prop} (h : YP n Q e (.exit id) w) : YP n (Exit.then K Q) e (.exit id) w := h
theorem YP.thenRet {K : Act → World → Prop} (h : YP n Q e .ret w) : YP n (Exit.then K Q) e .ret w := h
theorem YP.blockNormal (h : YP n Q e .normal w) : YP n (Exit.inBlock id Q) e .normal w := h
theorem YP.blockRet (h : YP n Q e .ret w) : YP n (Exit.inBlock id Q) e .ret w := h
theorem YP.blockHere (h : YP n Q e .normal w) : YP n (Exit.inBlock id Q) e (.exit id) w := fun a hf => by
 show (if id = id then _ else _); rw [if_pos rfl]; exact h a hf
def YAgain {ι : Type} (n : Fs) (inv : ι → World → Prop) (env : ι → Env) (μ : ι → Nat) (i : ι) (a : Act) (w : World) : Prop := ∃ j,inv j w ∧ Fr n (env j) a ∧ μ j < μ i
theorem YC.loop {ι : Type} (inv : ι → World → Prop) (env : ι → Env) (μ : ι → Nat) (i0 : ι) (h0 : inv i0 w) (hs : Sub e (env i0))
   (round : ∀ i w',inv i w' → YC P n (Exit.then (YAgain n inv env μ i) Q) m (env i) x w') : YC P n Q m e (.loop x) w := by
 intro a hf
 let I : Nat → Act → World → Prop := fun k a w => ∃ i,μ i = k ∧ inv i w ∧ Fr n (env i) a
 refine wpIn_loop (fun a w => ∃ k,I k a w) (fun a w => leastOf (fun k => I k a w)) ⟨μ i0,i0,rfl,h0,hf.sub hs⟩ ?_
 intro a w hI
 obtain ⟨i,hm,hi,hfi⟩ := (leastOf_spec hI).1
 refine wpIn_mono (round i w hi a hfi) ?_
 intro z a' w' hq
 cases z with
 | normal =>
   obtain ⟨j,h1,h2,h3⟩ := hq
   have hJ : ∃ k,I k a' w' := ⟨μ j,j,rfl,h1,h2⟩
   exact ⟨hJ,Nat.lt_of_le_of_lt ((leastOf_spec hJ).2 (μ j) ⟨j,rfl,h1,h2⟩) (hm ▸ h3)⟩
 | exit id => exact hq
 | goto l => exact hq
 | ret => exact hq
 | panic ch => exact hq
 | outgrown => exact hq
theorem YP.again {ι : Type} {inv : ι → World → Prop} {env : ι → Env} {μ : ι → Nat} {i : ι} (j : ι) (hj : inv j w) (hs : Sub e (env j)) (hm : μ j < μ i) :
   YP n (Exit.then (YAgain n inv env μ i) Q) e .normal w := fun _ hf => ⟨j,hj,hf.sub hs,hm⟩
end code
section func
variable {f : FuncId} {fn : Func} {c : Code} {R : Ending → World → Prop}
theorem YC.enter {args : List Value} {k : Nat} (hf : P.funcs[f]? = some fn) (hb : fn.body = some c) (hn : fn.ntmps = k) (ha : Nat.ble args.length k = true)
   (h : YC P ⟨k,[]⟩ (bodyPost P fn R) m (number 0 args) c w) : CallsIn (RW none) m P f args.toArray w R := by
 refine callsIn_of_wp hf hb trivial ?_ rfl
 have ha' : args.length ≤ k := by simpa [Nat.ble_eq] using ha
 refine h _ ⟨?_,rfl,?_⟩
 · simp [hn]; omega
 · intro t v hv
   obtain ⟨i,h1,h2⟩ := lk_number args 0 t v hv
   have hi : i < args.length := (List.getElem?_eq_some_iff.1 h2).1
   have e1 : t = i := by omega
   subst e1
   simp only [Array.getD_eq_getD_getElem?]
   rw [Array.getElem?_append_left (by simpa using hi)]
   simp [h2]
theorem YP.ret0 {k : Nat} (hr : fn.results = #[]) (hR : R (.returned (.tuple #[])) w) : YP ⟨k,[]⟩ (bodyPost P fn R) e .ret w := fun _ hf => bodyPost_ret (results_none hr _ _ _) hf.defers hR
theorem YP.end0 {k : Nat} (hr : fn.results = #[]) (hR : R (.returned (.tuple #[])) w) : YP ⟨k,[]⟩ (bodyPost P fn R) e .normal w := fun _ hf => bodyPost_end (results_none hr _ _ _) hf.defers hR
end func
end Go.JE
namespace Go.JE
variable {P : Program} {n : Fs} {w0 : World} {Q : Exit → Act → World → Prop} {e : Env} {H : Heap}
def Cg (N : Nat) (H1 H2 : Heap) : Prop := H1.size ≤ H2.size ∧ ∀ k o,H1[k]? = some o → (k < N ∨ o.isCells = true) → H2[k]? = some o
section
variable {N : Nat} {H1 H2 : Heap}
theorem InH.cg {F : PH} (h : InH F H1) (hF : InH F H) (c : Cg H.size H1 H2) : InH F H2 := fun k o hk => c.2 k o (h k o hk) (.inl (hF.lt hk))
theorem Bx.cg {g : Nat} {T : TypeId} {l : List Value} (h : Bx H1 g T l) (c : Cg N H1 H2) : Bx H2 g T l := c.2 g _ h (.inr rfl)
theorem Gl.cg {α : Type} {r : Rp α} {E : TypeId} {F : PH} {B : Nat} {v : Value} {l : List α} (h : Gl r E F H1 B v l) (c : Cg N H1 H2) : Gl r E F H2 B v l := by
 refine h.of fun k hk => ?_
 obtain ⟨xs,hr,_⟩ := h
 rcases hr.2 with ⟨e1,_⟩ | ⟨g,cap,cur,e1,_,hg,_⟩
 · rw [e1] at hk; cases hk
 · rw [e1] at hk
   have hgk : g = k := by injection hk
   subst hgk
   rw [hg,c.2 g _ hg (.inr rfl)]
theorem Mf.cg {g : Nat} {z : Value} {f : Int → Value} (h : Mf H1 g z f) (hg : g < N) (c : Cg N H1 H2) : Mf H2 g z f := by
 refine h.of ?_
 have := h.lt
 rw [c.2 g _ (Array.getElem?_eq_getElem this) (.inl hg),Array.getElem?_eq_getElem this]
theorem Kw.cg {W : Nat → Prop} {H0 : Heap} (h : Kw W H0 H1) (hs : H0.size ≤ N) (c : Cg N H1 H2) : Kw W H0 H2 := by
 refine ⟨Nat.le_trans h.1 c.1,fun k hk hw => ?_⟩
 rw [← h.2 k hk hw]
 have : k < H1.size := Nat.lt_of_lt_of_le hk h.1
 rw [c.2 k _ (Array.getElem?_eq_getElem this) (.inl (by omega)),Array.getElem?_eq_getElem this]
theorem Kp.cg {B : Nat} {H0 : Heap} (h : Kp B H0 H1) (hB : B ≤ H0.size) (hs : H0.size ≤ N) (c : Cg N H1 H2) : Kp B H0 H2 := by
 refine ⟨Nat.le_trans h.1 c.1,fun k hk => ?_⟩
 rw [← h.2 k hk]
 have : k < H1.size := by have := h.1; omega
 rw [c.2 k _ (Array.getElem?_eq_getElem this) (.inl (by omega)),Array.getElem?_eq_getElem this]
end
def Mk (H : Heap) (D : Nat) : Prop := H[D]? = some (.deferred (some []))
section
variable {D : Nat} {H' : Heap}
theorem Mk.lt (h : Mk H D) : D < H.size := (Array.getElem?_eq_some_iff.1 h).1
theorem Mk.of (h : Mk H D) (hb : H'[D]? = H[D]?) : Mk H' D := by unfold Mk at *; rw [hb]; exact h
theorem Mk.kp {B : Nat} (h : Mk H D) (hk : Kp B H H') (hb : D < B) : Mk H' D := h.of (hk.2 D hb)
theorem Mk.cg {N : Nat} {H2 : Heap} (h : Mk H D) (hg : D < N) (c : Cg N H H2) : Mk H2 D := c.2 D _ h (.inl hg)
end
def Nc (N : Nat) (H1 H2 : Heap) : Prop := ∀ k o,N ≤ k → H1[k]? = some o → o.isCells = false → H2[k]? = some o
section
variable {N : Nat} {H1 H2 H3 : Heap}
theorem Nc.refl (N : Nat) (H : Heap) : Nc N H H := fun _ _ _ h _ => h
theorem Nc.kp (h : Nc N H1 H2) (hk : Kp H2.size H2 H3) : Nc N H1 H3 := fun k o hN h1 ho => by
 have := h k o hN h1 ho
 rw [hk.2 k (Array.getElem?_eq_some_iff.1 this).1]; exact this
theorem Nc.kw {W : Nat → Prop} (h : Nc N H1 H2) (hk : Kw W H2 H3) (hw : ∀ k o,N ≤ k → H2[k]? = some o → W k → o.isCells = true) : Nc N H1 H3 := fun k o hN h1 ho => by
 have h2 := h k o hN h1 ho
 rw [hk.2 k (Array.getElem?_eq_some_iff.1 h2).1 ?_]; exact h2
 intro h9
 rw [hw k o hN h2 h9] at ho; cases ho
theorem Bx.isc {g : Nat} {T : TypeId} {l : List Value} (hb : Bx H g T l) {o : Obj} (h : H[g]? = some o) : o.isCells = true := by unfold Bx at hb; rw [hb] at h; injection h with h; subst h; rfl
theorem Gl.isc {α : Type} {r : Rp α} {E : TypeId} {F : PH} {B : Nat} {v : Value} {l : List α} (hg : Gl r E F H B v l) {k : Nat} (hk : v.ownBlock = some k) {o : Obj} (h : H[k]? = some o) : o.isCells = true := by
 obtain ⟨xs,hr,_⟩ := hg
 rcases hr.2 with ⟨h9,_⟩ | ⟨c,cap,cur,e1,_,hb,_⟩
 · rw [h9] at hk; cases hk
 · rw [e1] at hk
   have hcb : c = k := by injection hk
   rw [hcb,h] at hb; injection hb with hb; subst hb; rfl
end
def Fs.marks (n : Fs) (Ds : List Nat) : Fs := ⟨n.sz,Ds.map (fun D => { target := .collected D,args := #[] }) ++ n.ds⟩
section
variable {fn : Func} {R : Value → Heap → Prop}
end
theorem all_cons {p : Nat → Prop} {D : Nat} {Ds : List Nat} (h : p D) (t : ∀ D ∈ Ds,p D) : ∀ E ∈ D :: Ds,p E := fun E hE => by
 rcases List.mem_cons.1 hE with rfl | hE
 · exact h
 · exact t E hE
section
variable {x : Code}
end
theorem Bx.same {H' : Heap} {g : Nat} {T : TypeId} {l : List Value} (h : Bx H' g T l) (h2 : Bx H g T l) : H'[g]? = H[g]? := by unfold Bx at h h2; rw [h,h2]
def Ir (H : Heap) (r : Nat) : Prop := ∃ a b c d,H[r]? = some (.mapIter a b c d)
section
variable {r : Nat} {H' : Heap}
theorem Ir.lt (h : Ir H r) : r < H.size := by obtain ⟨a,b,c,d,h⟩ := h; exact (Array.getElem?_eq_some_iff.1 h).1
theorem Ir.of (h : Ir H r) (hb : H'[r]? = H[r]?) : Ir H' r := by obtain ⟨a,b,c,d,h⟩ := h; exact ⟨a,b,c,d,hb.trans h⟩
theorem Ir.kp {B : Nat} (h : Ir H r) (hk : Kp B H H') (hb : r < B) : Ir H' r := h.of (hk.2 r hb)
theorem It.ir {b : Nat} {L : List (Int × Value)} {vis : List Int} (h : It H r b L vis) : Ir H r := by obtain ⟨es,c,seen,h1,h2,h3,_⟩ := h; exact ⟨_,_,_,_,h3⟩
end
theorem PH.ext.mark {F0 F G : PH} {D : Nat} (hx : PH.ext H F0 F) (hl : F.le G) (hn : ∀ k,k ≠ D → G k = F k) (hD : H.size ≤ D) : PH.ext H F0 G :=
 ⟨hx.1.trans hl,fun k hk => (hn k (by omega)).trans (hx.2 k hk)⟩
section
variable {P : Program} {e : Env} {H : Heap}
structure St2 (P : Program) (T : TypeId) (k : IntKind) : Prop where
 und : ∃ f0 f1, P.underlying T = some (.struct #[f0, f1]) ∧ f0.name ≠ "_" ∧ f1.name ≠ "_" ∧ f0.offset = 0 ∧ f1.offset = 1 ∧ P.underlying f0.type = some (.int k) ∧ P.underlying f1.type = some (.int k)
 stood : P.stoodInHeld T = false
 guard : P.eqGuardType P.depth T = false
end
end Go.JE
namespace Go.JE
variable {P : Program} {n : Fs} {w0 : World} {Q : Exit → Act → World → Prop} {e : Env} {H : Heap} {X : Cx} {D Ds : List Dt} {L M Ls : List Res}
theorem no_nop (Q : Exit → Act → World → Prop) : NoP (NO Q) = NO (NoP Q) := by
 funext x a w; cases x <;> rfl
theorem opRW {ro : Option Nat} {m : Nat} {ops : Array Oper} (hd : ∀ (i : Nat) (o : Oper),ops[i]? = some o → noDefer o = true) {K K' : Act → World → Prop} (hK : ∀ a w,K a w → K' a w) {i : Nat} {a : Act} {w : World} (h : wpOp P ops (NO Q) i K a w) : wpOpIn (RW ro) m P ops (NO Q) i K' a w := by
 unfold wpOp at h
 unfold wpOpIn
 cases ho : ops[i]? with
 | none => rw [ho] at h; exact hK _ _ h
 | some o =>
   rw [ho] at h
   dsimp only at h ⊢
   split at h
   · rename_i hw
     rw [if_pos hw]
     rcases h with h | ⟨_,h⟩
     · refine ⟨fun _ _ => trivial,?_⟩
       rw [Oper.semAt_eq _ _ _ (fun c hc => by have := hd i o ho; simp [noDefer,hc] at this)]
       exact uponRW hK _ h
     · exact (NO.lets h).elim
   · rename_i hw
     rw [if_neg hw]
     exact ⟨fun _ _ => trivial,hK _ _ h⟩
theorem anyRW {ro : Option Nat} {m : Nat} {ops : Array Oper} (hd : ∀ (i : Nat) (o : Oper),ops[i]? = some o → noDefer o = true) : ∀ (fuel : Nat) (listed : Array Bool) (a : Act) (w : World),wpAny P .any ops (NO Q) fuel listed a w → wpAnyIn (RW ro) m P .any ops (NO Q) fuel listed a w
 | 0,_,_,_,h => h
 | fuel + 1,_,_,_,h => ⟨h.1,fun i hi => opRW hd (fun a w h => anyRW hd fuel _ a w h) (h.2 i hi)⟩
theorem RCF.any {id : Nat} {l : List Oper} {z : Bool} {ro : Option Nat} {m : Nat} (S : Heap → Prop) (hm : P.follows .mixedOrders = true) (hd : l.all noDefer = true) (h : AF P n w0 l.toArray (NO Q) z S l.length (Array.replicate l.length false) e H) : RCF P n w0 ro m Q e (.region id l.toArray true) H := by
 intro a w hf hw
 have h1 := h a _ hf hw.drew
 rw [no_nop] at h1
 have hd' : ∀ (i : Nat) (o : Oper),l.toArray[i]? = some o → noDefer o = true := fun i o ho => List.all_eq_true.1 hd o (List.mem_of_getElem? (by simpa using ho))
 refine wpIn_mono (wpIn_region_any hm (anyRW hd' _ _ _ _ (AnyL.any (z := z) (S := fun w => S w.heap) _ _ _ _ ?_))) (fun x a w h => NoP.imp _ _ _ (NO.imp _ _ _ h))
 simpa using h1
def RCH (P : Program) (n : Fs) (w0 : World) (ro : Option Nat) (m : Nat) (Q : Exit → Act → World → Prop) (X : Cx) (D : List Dt) (L : List Res) (e : Env) (c : Code) : Prop := ∀ F H,Hp X D L F H → RCF P n w0 ro m Q e c H
section
variable {ro : Option Nat} {m : Nat} {x y : Code} {id : Nat} {l : List Oper}
theorem rany (z : Bool) (is : Od) (hm : P.follows .mixedOrders = true) (hO : (okO l.toArray z (Array.replicate l.length false) is && (Region.noSelect l.toArray && decide (l.length = is.sz))) = true) (hk : Tks L Ls M) (hd : l.all noDefer = true)
   (h : ∀ FS,AH P n w0 l (NO Q) z X FS D Ls is D L e) : RCH P n w0 ro m Q X D L e (.region id l.toArray true) := fun F H hp => by
 simp only [Bool.and_eq_true,decide_eq_true_eq] at hO
 refine RCF.any (z := z) (SS X F Ls) hm hd ?_
 have := h F F H (PH.le.refl F) hp.hd hp (.inl ⟨F,PH.le.refl F,hp.sub dn hk⟩) hO.2.1 _ hO.1
 rw [hO.2.2] at this ⊢
 exact this
theorem rb (h : RCH P n w0 ro m (Exit.inBlock id Q) X D L e x) : RCH P n w0 ro m Q X D L e (.block id x) := fun F H hp => RCF.block (h F H hp)
end
def Kq (Ow : Heap → Nat → Prop) (A B : Heap) : Prop := A.size ≤ B.size ∧ (∀ k o,A[k]? = some o → o.isCells = true → ¬ Ow A k → B[k]? = some o) ∧ ∀ k,Ow B k → Ow A k ∨ A.size ≤ k
theorem Kq.trans {Ow : Heap → Nat → Prop} {A B C : Heap} (h : Kq Ow A B) (h2 : Kq Ow B C) : Kq Ow A C := by
 refine ⟨Nat.le_trans h.1 h2.1,fun k o hk hc ho => ?_,fun k hk => ?_⟩
 · have hlt := (Array.getElem?_eq_some_iff.1 hk).1
   refine h2.2.1 k o (h.2.1 k o hk hc ho) hc fun h9 => ?_
   rcases h.2.2 k h9 with h8 | h8
   · exact ho h8
   · omega
 · rcases h2.2.2 k hk with h9 | h9
   · exact h.2.2 k h9
   · exact .inr (Nat.le_trans h.1 h9)
def IterQ {α : Type} (P : Program) (g : Nat) (lb : Array Value) (encs : α → Array Value) (Ow : Heap → Nat → Prop) (xs : List α) (H : Heap) : Prop :=
 ∀ w0 : World,w0.heap = H → SeqStopsK (RW none) 2 P g lb encs (fun W W' => Kq Ow W.heap W'.heap) (fun ys => ys = xs) (fun _ => True) xs.length w0
def RQ3 {σ : Type} (w0 : World) (X2 : Cx) (J : σ → Prop) (L : σ → List Res) : Exit → Act → World → Prop
 | .normal,_,w => Wd w0 w.heap w ∧ ∃ s F,J s ∧ Hp X2 [] (L s) F w.heap
 | _,_,_ => False
theorem rend {σ : Type} {X2 : Cx} {J : σ → Prop} {Lf : σ → List Res} (s : σ) (hJ : J s) (hk : Tks L (Lf s) []) : QH n w0 (RQ3 w0 X2 J Lf) X2 D L e .normal := fun F H hp a w hf hw => by
 refine ⟨⟨rfl,hw.os,hw.tape,hw.output⟩,s,F,hJ,?_⟩
 rw [hw.heap]
 obtain ⟨o1,_,_⟩ := hk.ok hp.ok
 exact ⟨hp.hx,hp.hin,hp.hw,trivial,o1,fun k h => hp.ge k (hk.own (.inl h))⟩
theorem Hp.cg {F : PH} {H0 H1 H2 : Heap} (h : Hp X D L F H1) (hF : InH F H0) (hs : X.H.size ≤ H0.size) (hc : ∀ k,Own L k → ∃ o,H1[k]? = some o ∧ o.isCells = true) (c : Cg H0.size H1 H2) : Hp X D L F H2 :=
 ⟨h.hx,h.hin.cg hF c,h.hw.cg hs c,h.hd,h.ok.st (PH.le.refl F) c.1 (fun k hk => h.ok.no hk) (fun k hk => by obtain ⟨o,h1,h2⟩ := hc k hk; rw [h1,c.2 k o h1 (.inr h2)]),h.ge⟩
theorem CH.rangeFunc {α σ : Type} {g : Operand} {ps : List Nat} {assign body : Code} {gf go : Nat} {lb : Array Value} {encs : α → List Value} {xs : List α} (envx : α → Env)
   (Lf : σ → List Res) (Ow : Heap → Nat → Prop) (inv : List α → σ → Prop) (s0 : σ) (hg : ev e g = some (.func (.func gf) #[] lb)) (hE : Ent P gf) (hlen : ∀ x,(encs x).length = ps.length)
   (hps : ps.all (fun p => Nat.blt p n.sz) = true)
   (hOw : ∀ pre s F A,inv pre s → Ok F A (Lf s) → ∀ k,Own (Lf s) k ↔ Ow A k) (hOc : ∀ pre s F A,inv pre s → Ok F A (Lf s) → ∀ k,Own (Lf s) k → ∃ o,A[k]? = some o ∧ o.isCells = true) (hOd : ∀ pre s F G A,inv pre s → F.le G → Ok G A (Lf s) → Ok F A (Lf s)) (hOg : ∀ A B : Heap,B[go]? = A[go]? → ∀ k,Ow B k → Ow A k)
   (hit : ∀ F H,Hp X D (Lf s0) F H → IterQ P gf lb (fun x => (encs x).toArray) Ow xs H ∧ go < H.size) (h0 : inv [] s0)
   (hassign : ∀ (l : Nat) (x : α) (H' : Heap),RCF P ⟨n.sz,[]⟩ w0 (some l) 1 (AQ ⟨n.sz,[]⟩ w0 (envx x) H') (laid e ps (encs x)) assign H')
   (hbody : ∀ (l : Nat) (pre : List α) (x : α) (s : σ) (X2 : Cx),inv pre s → pre.length < xs.length → RCH P ⟨n.sz,[]⟩ w0 (some l) 1 (RQ3 w0 X2 (inv (pre ++ [x])) Lf) X2 D (Lf s) (envx x) body)
   (hdone : ∀ (M9 : Nat) (s : σ) (F : PH) (H H' : Heap),inv xs s → InH F H → H.size ≤ M9 → X.H.size ≤ M9 → Hp X D (Lf s) F H' → Mk H' M9 → PF (n.mark M9) w0 Q e .normal H') :
   CH P n w0 Q X D (Lf s0) e (.rangeFunc g ps.toArray assign body) := by
 intro F0 H hp
 obtain ⟨hit,hgo⟩ := hit F0 H hp
 refine RCF.out (m := 3) fun a w hf hw => ?_
 have hw' := hw.heap
 have hB : w.heap.size = H.size := by rw [hw']
 have hsX : X.H.size ≤ H.size := hp.hw.1
 refine wpIn_rangeFunc_ownH (α := α) (F := RW none) (n := 3) (gf := gf) (lb := lb) (encs := fun x => (encs x).toArray) (Kp := fun W W' => Kq Ow W.heap W'.heap) (S := fun ys => ys = xs) (Sp := fun _ => True) (N := xs.length) (w0 := w)
   rfl (by decide) (hf.ev hg) trivial (fun args w => hE.run args w) (hit w hw') (fun h1 h2 => h1.trans h2)
   (fun W l o o' hl ho hc _ => ?putobj) (RowKit.Below.refl _ _) (fun x => by simp [hlen])
   (fun pre W => Wd w0 W.heap W ∧ H.size ≤ W.heap.size ∧ ∃ s,inv pre s ∧ Hp X D (Lf s) F0 W.heap) (fun _ _ _ => False) ?own (fun _ _ _ _ _ h _ _ => h) ⟨⟨rfl,hw.os,hw.tape,hw.output⟩,by omega,s0,h0,by rw [hw']; exact hp⟩
   (fun x a' _ => Fr ⟨n.sz,[]⟩ (envx x) a') (fun _ _ _ _ _ _ h _ _ => h) ?assign ?body ?done ?stop
 case putobj =>
   have hne : ∀ k,k ≠ l → (W.putObj l o').heap[k]? = W.heap[k]? := fun k hk => World.putObj_heap_other hk
   refine ⟨by simp [World.putObj],fun k o2 hk hc2 _ => ?_,fun k hk => .inl (hOg _ _ (hne go (by omega)) k hk)⟩
   rw [hne k (fun e1 => by subst e1; rw [ho] at hk; injection hk with hk; subst hk; rw [hc] at hc2; cases hc2)]; exact hk
 case own =>
   rintro pre W W' row ⟨h1,h2,s,h3,h4⟩ hg' hr
   refine ⟨⟨rfl,hg'.os.trans h1.os,hg'.tape.trans h1.tape,hg'.output.trans h1.output⟩,Nat.le_trans h2 hg'.size,s,h3,h4.cg hp.hin hsX (hOc pre s F0 _ h3 h4.ok) ⟨hg'.size,fun k o hk hc => ?_⟩⟩
   refine (hg'.block k (Array.getElem?_eq_some_iff.1 hk).1 (fun e1 => ?_)).trans hk
   obtain ⟨h5,o',h6,h7⟩ := hr k e1.symm
   rcases hc with hc | hc
   · omega
   · rw [hk] at h6; injection h6 with h6; subst h6; rw [hc] at h7; cases h7
 case assign =>
   rintro l pre x W K ⟨h1,h2,h3⟩ hK
   have hfr : Fr ⟨n.sz,[]⟩ (laid e ps (encs x)) { tmps := (ps.toArray.zip (encs x).toArray).foldl (fun t p => t.setIfInBounds p.1 p.2) a.tmps,defers := [] } := by
     have := laid_fr ps (encs x) e a.tmps hps ⟨hf.size,rfl,hf.get⟩
     simpa using this
   refine wpIn_mono (hassign l x W.heap _ W hfr h1) ?_
   intro z a' W' hz
   cases z with
   | normal =>
     obtain ⟨h4,h5⟩ := hz
     have h6 : W'.heap = W.heap := h5.heap
     refine hK a' W' ⟨by rw [h6]; exact Nat.le_refl _,fun k o _ hk _ => by rw [h6]; exact hk⟩ ?_ ⟨⟨rfl,h5.os,h5.tape,h5.output⟩,by rw [h6]; exact h2,by rw [h6]; exact h3⟩ h4
     show Kq Ow W.heap W'.heap
     rw [h6]
     exact ⟨Nat.le_refl _,fun _ _ h _ _ => h,fun _ h => .inl h⟩
   | _ => exact hz
 case body =>
   rintro l pre x a' W _ _ ⟨h1,h2,s,h3,h4⟩ hfr hlt
   have hp2 : Hp ⟨Own (Lf s),W.heap,F0⟩ D (Lf s) F0 W.heap := ⟨PH.ext.refl F0,h4.hin,Kw.refl _ _,h4.hd,h4.ok,fun k hk => .inr hk⟩
   refine wpIn_mono (hbody l pre x s ⟨Own (Lf s),W.heap,F0⟩ h3 hlt F0 W.heap hp2 a' W hfr h1) ?_
   intro z a2 W' hz
   cases z with
   | normal =>
     obtain ⟨h5,s',F',h6,h7⟩ := hz
     have hle : F0.le F' := h7.hx.1
     have hkw : Kw (Own (Lf s)) W.heap W'.heap := h7.hw
     have ho' : Ok F0 W'.heap (Lf s') := hOd _ s' F0 F' _ h6 hle h7.ok
     have hown := hOw _ s F0 W.heap h3 h4.ok
     have hown' := hOw _ s' F0 W'.heap h6 ho'
     refine ⟨⟨hkw.1,fun k o hk ho hc => ?_⟩,⟨hkw.1,fun k o hk hc hno => ?_,fun k hk => ?_⟩,h5,Nat.le_trans h2 hkw.1,s',h6,?_⟩
     · refine (hkw.2 k (Array.getElem?_eq_some_iff.1 ho).1 fun h9 => ?_).trans ho
       obtain ⟨o2,h8,h10⟩ := hOc _ s F0 _ h3 h4.ok k h9
       rw [ho] at h8; injection h8 with h8; subst h8; rw [hc] at h10; cases h10
     · exact (hkw.2 k (Array.getElem?_eq_some_iff.1 hk).1 fun h9 => hno ((hown k).1 h9)).trans hk
     · rcases h7.ge k ((hown' k).2 hk) with h9 | h9
       · exact .inr h9
       · exact .inl ((hown k).1 h9)
     · refine ⟨h4.hx,fun k o hk => h7.hin k o (hle k o hk),h4.hw.kw hkw fun k hk1 hk2 => (h4.ge k hk2).resolve_left (by omega),h4.hd,ho',fun k hk => ?_⟩
       rcases h7.ge k hk with h9 | h9
       · exact .inl (Nat.le_trans h4.hw.1 h9)
       · exact h4.ge k h9
   | _ => exact hz.elim
 case done =>
   rintro M9 ys W hD rfl ⟨h1,h2,s,h3,h4⟩ hK
   exact hdone M9 s F0 H W.heap h3 hp.hin (by omega) (by omega) h4 hK _ W ⟨hf.size,by simp [hf.defers],hf.get⟩ h1
 case stop =>
   rintro M9 c pre W _ _ h _
   exact h.elim
end Go.JE
namespace Go.JE
variable {P : Program} {n : Fs} {Q : Exit → Act → World → Prop} {e : Env} {w : World} {m : Nat} {F : PH} {D : List Dt}
section
variable {ops : Array Oper} {op : Op} {d : Nat} {ty : TypeId} {pos : String} {af : Array Edge} {rest : List Oper} {v : Value}
theorem yo (hin : InH F w.heap) (hd : AllD F D) (h : OH P D [] e op v) (K : YL P n ops Q m ((d,v) :: e) rest w) (hs : Nat.blt d n.sz = true := by rfl) (hn : noDefer ⟨some d,op,ty,pos,af,none⟩ = true := by rfl) : YL P n ops Q m e (⟨some d,op,ty,pos,af,none⟩ :: rest) w := YL.step (h F _ hin hd trivial) K hs hn
theorem ye {q : Value → PH → Prop} (hin : InH F w.heap) (hd : AllD F D) (h : OE P D [] e op q) (K : ∀ v,q v F → YL P n ops Q m ((d,v) :: e) rest w) (hs : Nat.blt d n.sz = true := by rfl) (hn : noDefer ⟨some d,op,ty,pos,af,none⟩ = true := by rfl) : YL P n ops Q m e (⟨some d,op,ty,pos,af,none⟩ :: rest) w := by
 obtain ⟨v,h1,h2⟩ := h F _ hin hd trivial
 exact YL.step h1 (K v h2) hs hn
theorem YL.call {f : FuncId} {args : Array Value} {R : Value → Heap → Prop} (h : OpCall P e op w.heap f args) (hc : Ct P f args w.heap R) (K : ∀ v (w' : World),w'.os = w.os → w'.tape = w.tape → w'.output = w.output → R v w'.heap → YL P n ops Q m ((d,v) :: e) rest w') (hs : Nat.blt d n.sz = true := by rfl) (hn : noDefer ⟨some d,op,ty,pos,af,none⟩ = true := by rfl) :
   YL P n ops Q m e (⟨some d,op,ty,pos,af,none⟩ :: rest) w := by
 intro a hf
 refine wpListIn_plain rfl fun K' hK' => ⟨fun _ _ => trivial,?_⟩
 rw [Oper.semAt_eq _ _ _ (fun c hc => by simp only at hc; subst hc; cases hn),h a.eval _ w rfl (fun x u hx => hf.ev hx) rfl]
 refine ⟨fun h0 => (by simp [Fence.wide] at h0),(callsRW (hc w rfl)).mono fun x w' hx => ?_⟩
 obtain ⟨v,rfl,h1,h2,h3,h4⟩ := hx
 exact hK' _ _ (K v w' h1 h2 h3 h4 _ (hf.put hs v))
end
def PH.cl (F : PH) : PH := fun k => match F k with
 | some o => if o.isCells = true then some o else none
 | none => none
theorem PH.cl_some {F : PH} {k : Nat} {o : Obj} (h : F.cl k = some o) : F k = some o ∧ o.isCells = true := by
 unfold PH.cl at h
 split at h
 · rename_i o' h1
   split at h
   · rename_i h2; injection h with h; subst h; exact ⟨h1,h2⟩
   · cases h
 · cases h
theorem PH.cl_pc (F : PH) (b o : Nat) : pc F.cl b o = pc F b o := by
 unfold pc PH.cl
 cases h : F b with
 | none => rfl
 | some x =>
   cases x <;> simp [Obj.isCells]
theorem InH.cl {F : PH} {H : Heap} (h : InH F H) : InH F.cl H := fun k o hk => h k o (PH.cl_some hk).1
theorem rows_cl {F : PH} {v : Value} {k : IntKind} {l : List (List Int)} (h : (rL (rL (rI k))).rv F v l) : (rL (rL (rI k))).rv F.cl v l := by
 obtain ⟨h0,a,cap,h1,h2,h3,g,h4,h5⟩ := h
 refine ⟨h0,a,cap,h1,h2,h3,g,fun i hi => by rw [PH.cl_pc]; exact h4 i hi,fun i hi => ?_⟩
 obtain ⟨p0,a',cap',p1,p2,p3,g',p4,p5⟩ := h5 i hi
 exact ⟨p0,a',cap',p1,p2,p3,g',fun j hj => by rw [PH.cl_pc]; exact p4 j hj,p5⟩
structure Lie (Ow : Heap → Nat → Prop) (F : PH) (H : Heap) : Prop where
 hin : InH F H
 cel : ∀ k o,F k = some o → o.isCells = true
 no : ∀ k o,F k = some o → ¬ Ow H k
theorem Lie.kq {Ow : Heap → Nat → Prop} {F : PH} {H H' : Heap} (h : Lie Ow F H) (hk : Kq Ow H H') : Lie Ow F H' := by
 refine ⟨fun k o hF => hk.2.1 k o (h.hin k o hF) (h.cel k o hF) (h.no k o hF),h.cel,fun k o hF ho => ?_⟩
 rcases hk.2.2 k ho with h9 | h9
 · exact h.no k o hF h9
 · have := (Array.getElem?_eq_some_iff.1 (h.hin k o hF)).1; omega
end Go.JE
namespace Go.Proofs.YtmfkkodnghambaaGreat
open Go.JE
theorem edges_iter {F : PH} {H : Heap} {g1 go : Nat} {vg : Value} {g : List (List Int)} {Ow : Heap → Nat → Prop} (hin : InH F H) (hb : Bx H g1 125 [vg]) (hd : (rL (rL (rI .i64))).rv F vg g)
   (hOg : ∀ A B : Heap,B[go]? = A[go]? → ∀ k,Ow B k → Ow A k) (hgo : go < H.size) (hOl : ∀ k,Ow H k → k < H.size) (hOF : ∀ k,Ow H k → F k = none) :
   IterQ Tryz.prog 190 #[.pointer (some ⟨g1,0,none⟩)] (fun x : Ed g.length => (edEnc x).toArray) Ow (edgesX g) H := by
 rintro w0 rfl lr J Jx W hW hJ hJx hY h0
 have hkW : ∀ k,k < w0.heap.size → W.heap[k]? = w0.heap[k]? := fun k hk => hW.block k hk
 have hOW : ∀ k,Ow W.heap k → Ow w0.heap k := hOg _ _ (hkW go hgo)
 have hFin : InH F.cl W.heap := fun k o hk => by
   have h1 := hin.cl k o hk
   rw [hkW k (Array.getElem?_eq_some_iff.1 h1).1]; exact h1
 have hWsz : w0.heap.size ≤ W.heap.size := hW.size
 have hbW : Bx W.heap g1 125 [vg] := hb.of (hkW g1 hb.lt)
 have hdW := rows_cl hd
 refine YC.enter (args := [.func (.yield lr) #[] #[],.pointer (some ⟨g1,0,none⟩)]) Tryz.func190 rfl rfl rfl ?_
 refine YC.seq ?_
 refine YC.region ?_
 refine YL.step (OpOk.ldBx hbW O125 rfl rfl) ?_
 refine YL.call (OpCall.fnc (cs := []) E182 rfl (evl1 Z)) (clean_ct F.cl W.heap hFin ⟨hdW,trivial⟩ trivial) ?_
 rintro v8 W1 e1 e2 e3 ⟨_,F1,rfl,hr1⟩
 have hp1 := hr1 _ (Nat.le_refl _)
 have hkw1 := hp1.hw
 have hgr : W.grownBy W1 none := ⟨e1,e2,e3,hkw1.1,fun k hk _ => hkw1.2 k hk id⟩
 have hJ1 : J [] W1 := hJ _ _ _ _ h0 hgr (fun r hr => by cases hr)
 have hD : AllD F1.cl [dv (rL (rL (rI .i64))) v8 (cleanM g)] := ⟨rows_cl hp1.hd.1,trivial⟩
 have hOW1 : ∀ k,Ow W1.heap k → Ow w0.heap k := fun k hk => hOW k (hOg _ _ (hkw1.2 go (by show go < W.heap.size; omega) id) k hk)
 have hlie : Lie Ow F1.cl W1.heap := by
   refine ⟨hp1.hin.cl,fun k o hk => (PH.cl_some hk).2,fun k o hk ho => ?_⟩
   have h2 := hOW1 k ho
   have h3 := hOl k h2
   have h4 := (PH.cl_some hk).1
   rw [hp1.hx.2 k (by show k < W.heap.size; omega)] at h4
   have h5 := (PH.cl_some h4).1
   rw [hOF k h2] at h5; cases h5
 clear hr1 hp1 hkw1 hgr e1 e2 e3
 have hcl := clean_len g
 have hxl := edgesX_len (g := g)
 have hq := rL.len hD.1
 rw [hcl] at hq
 refine yo hlie.hin hD (jln U125 d0 Z) ?_
 refine YL.step (OpOk.move rfl) ?_
 refine YL.nil ?_
 refine YP.next ?_
 refine YC.block ?_
 refine YC.loop (ι := Nat) (fun k W' => k ≤ g.length ∧ J ((edgesX g).take (edgesT (cleanM g) k).length) W' ∧ Lie Ow F1.cl W'.heap)
   (fun k => [(0,.func (.yield lr) #[] #[]),(8,v8),(9,.int .i64 ((cleanM g).length : Nat)),(10,.int .i64 (k : Int))]) (fun k => g.length - k) 0 ⟨Nat.zero_le _,by simpa [edgesT] using hJ1,hlie⟩ ⟨rfl,rfl,rfl,rfl,trivial⟩ ?_
 rintro k W2 ⟨hk,hJ2,hl2⟩
 refine YC.seq ?_
 refine YC.region ?_
 refine yo hl2.hin hD (jlss Z Z) ?_
 refine YL.nil ?_
 refine YP.next ?_
 refine YC.seq ?_
 refine YC.if rfl (fun hc1 => ?_) (fun hc1 => ?_)
 · refine YC.skip ?_
   refine YP.next ?_
   refine YC.seq ?_
   refine YC.block ?_
   refine YC.seq ?_
   refine YC.region ?_
   refine YL.step (OpOk.move rfl) ?_
   refine yo hl2.hin hD (jix (i := k) U125 Z22 d0 Z Z Z (by omega)) ?_
   refine ye hl2.hin hD (jlV (dix d0 k (by omega)) O22 Z Z) fun v14 hv14 => ?_
   have hD2 : AllD F1.cl [dv (rL (rI .i64)) v14 (ix (cleanM g) k)] := ⟨hv14,trivial⟩
   refine YL.step (OpOk.assign rfl) ?_
   refine YL.step (OpOk.assign rfl) ?_
   refine YL.nil ?_
   refine YP.next ?_
   refine YC.seq ?_
   refine YC.region ?_
   refine YL.step (OpOk.move rfl) ?_
   refine yo hl2.hin hD2 (jln U22 d0 Z) ?_
   refine YL.step (OpOk.move rfl) ?_
   refine YL.nil ?_
   refine YP.next ?_
   refine YC.block ?_
   refine YC.loop (ι := Nat) (fun j W' => j ≤ (ix (cleanM g) k).length ∧ J ((edgesX g).take ((edgesT (cleanM g) k).length + j)) W' ∧ Lie Ow F1.cl W'.heap)
     (fun j => [(0,.func (.yield lr) #[] #[]),(3,.int .i64 (k : Int)),(8,v8),(9,.int .i64 ((cleanM g).length : Nat)),(10,.int .i64 (k : Int)),(15,v14),(16,.int .i64 ((ix (cleanM g) k).length : Nat)),(17,.int .i64 (j : Int))]) (fun j => (ix (cleanM g) k).length - j) 0 ⟨Nat.zero_le _,by simpa using hJ2,hl2⟩ ⟨rfl,rfl,rfl,rfl,rfl,rfl,rfl,rfl,trivial⟩ ?_
   rintro j W3 ⟨hj,hJ3,hl3⟩
   refine YC.seq ?_
   refine YC.region ?_
   refine yo hl3.hin hD2 (jlss Z Z) ?_
   refine YL.nil ?_
   refine YP.next ?_
   refine YC.seq ?_
   refine YC.if rfl (fun hc2 => ?_) (fun hc2 => ?_)
   · have hjl : j < (ix (cleanM g) k).length := by omega
     obtain ⟨hp1,hp2⟩ := edge_at (rows := cleanM g) (n := g.length) (k := k) (j := j) (by omega) hjl
     have hpx : (edgesT (cleanM g) k).length + j < (edgesX g).length := by omega
     have hxv : (edgesX g)[(edgesT (cleanM g) k).length + j].val = ((k : Int),ix (ix (cleanM g) k) j) := (edgesX_at hpx).trans (hp2 hp1)
     have hsn : (edgesX g).take ((edgesT (cleanM g) k).length + j) ++ [(edgesX g)[(edgesT (cleanM g) k).length + j]] = (edgesX g).take ((edgesT (cleanM g) k).length + (j + 1)) := (List.take_succ_eq_append_getElem hpx).symm
     refine YC.skip ?_
     refine YP.next ?_
     refine YC.seq ?_
     refine YC.block ?_
     refine YC.seq ?_
     refine YC.region ?_
     refine yo hl3.hin hD2 (jix (i := j) U22 Z3 d0 Z Z Z hjl) ?_
     refine yo hl3.hin hD2 (jlI (dix d0 j hjl) O3 Z) ?_
     refine YL.step (OpOk.assign rfl) ?_
     refine YL.nil ?_
     refine YP.next ?_
     refine YC.seq ?_
     refine YC.region ?_
     refine YL.step (OpOk.move rfl) ?_
     refine YL.step (OpOk.move rfl) ?_
     refine YL.step (OpOk.move rfl) ?_
     have hy := hY ((edgesX g).take ((edgesT (cleanM g) k).length + j)) (edgesX g)[(edgesT (cleanM g) k).length + j] W3 hJ3 (by rw [List.length_take]; omega)
     refine YL.yield (l := lr) (args := (edEnc (edgesX g)[(edgesT (cleanM g) k).length + j]).toArray) (OpYield.call rfl (show some [Value.int .i64 (k : Int),Value.int .i64 (ix (ix (cleanM g) k) j)] = some (edEnc (edgesX g)[(edgesT (cleanM g) k).length + j]) by unfold edEnc; rw [hxv])) hy ?_
     rintro z W4 (⟨rfl,hJ4,hk4⟩ | ⟨rfl,hJx4⟩)
     · rw [hsn] at hJ4
       have hl4 : Lie Ow F1.cl W4.heap := hl3.kq hk4
       refine ⟨_,rfl,?_⟩
       refine YL.step (OpOk.not rfl) ?_
       refine YL.nil ?_
       refine YP.next ?_
       refine YC.if rfl (fun hc3 => absurd hc3 (by simp)) (fun hc3 => ?_)
       refine YC.skip ?_
       refine YP.blockNormal ?_
       refine YP.next ?_
       refine YC.region ?_
       refine yo hl4.hin hD2 (jadd Z Z (by have := rL.len hv14; omega)) ?_
       refine YL.step (OpOk.move rfl) ?_
       refine YL.nil ?_
       exact YP.again (j + 1) ⟨by omega,hJ4,hl4⟩ ⟨rfl,rfl,rfl,rfl,rfl,rfl,rfl,eqI (by omega),trivial⟩ (by omega)
     · refine ⟨_,rfl,?_⟩
       refine YL.step (OpOk.not rfl) ?_
       refine YL.nil ?_
       refine YP.next ?_
       refine YC.if rfl (fun hc3 => ?_) (fun hc3 => absurd hc3 (by simp))
       refine YC.ret ?_
       repeat' first | refine YP.blockRet ?_ | refine YP.thenRet ?_
       exact YP.ret0 rfl ⟨⟨_,rfl⟩,.inr ⟨_,trivial,hJx4⟩⟩
   · have hje : j = (ix (cleanM g) k).length := by omega
     subst hje
     refine YC.exit ?_
     refine YP.thenExit ?_
     refine YP.thenExit ?_
     refine YP.blockHere ?_
     refine YP.blockNormal ?_
     refine YP.next ?_
     refine YC.region ?_
     refine YL.step (OpOk.add rfl rfl (by omega)) ?_
     refine YL.step (OpOk.move rfl) ?_
     refine YL.nil ?_
     exact YP.again (k + 1) ⟨by omega,by rw [edges_next]; exact hJ3,hl3⟩ ⟨rfl,rfl,rfl,eqI (by omega),trivial⟩ (by omega)
 · have hke : k = g.length := by omega
   subst hke
   rw [← hxl,List.take_length] at hJ2
   refine YC.exit ?_
   refine YP.thenExit ?_
   refine YP.thenExit ?_
   refine YP.blockHere ?_
   exact YP.end0 rfl ⟨⟨_,rfl⟩,.inl ⟨_,rfl,hJ2⟩⟩
end Go.Proofs.YtmfkkodnghambaaGreat
