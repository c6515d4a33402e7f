/- Lemmas that the claim is made of. Conditions: each lemma names its own. -/
import Derived.Test.YtmfkkodnghambaaKC8
set_option linter.unusedSectionVars false
set_option linter.unusedSimpArgs false
set_option linter.unusedVariables false
namespace Go.Proofs.Ytmfkkodnghambaa
open Go.JE
def posB (bs : List D.Block) (v : Int) (wb : Nat) (wp : Int) : Bool := decide (wb < bs.length) && ((decide (wp < 0) && decide (Int.toNat (-1 - wp) < (ix bs wb).Phis.length) && decide (v = (ix (ix bs wb).Phis (Int.toNat (-1 - wp))).Dst)) || (decide (0 ≤ wp) && decide (Int.toNat wp < (ix bs wb).Ins.length) && decide (v ∈ makes3 (ix (ix bs wb).Ins (Int.toNat wp)))))
def cloB (bs : List D.Block) (w : Nat) (S : List Nat) : Bool := decide (0 ∈ S) && S.all (fun x => (ix bs x).Term.To.all (fun t => decide (t.toNat ∈ S) || decide (t.toNat = w)))
def usB (f : D.Func) (pos : Int → Nat × Int) (S : Nat → List Nat) (v : Int) (b : Nat) (at' : Int) : Bool :=
 (decide (0 ≤ v) && decide (v < f.Params)) || (posB f.Blocks v (pos v).1 (pos v).2 && ((decide ((pos v).1 = b) && (decide ((pos v).2 < at') || decide ((pos v).2 < 0))) || (decide ((pos v).1 ≠ b) && (decide ((pos v).1 = 0) || (cloB f.Blocks (pos v).1 (S (pos v).1) && decide (b ∉ S (pos v).1))))))
theorem posB_at {bs : List D.Block} {v : Int} {wb : Nat} {wp : Int} (h : posB bs v wb wp = true) : PosAt bs v wb wp := by
 unfold posB at h
 simp only [Bool.and_eq_true,Bool.or_eq_true,decide_eq_true_eq] at h
 obtain ⟨h1,⟨⟨h2,h3⟩,h4⟩ | ⟨⟨h2,h3⟩,h4⟩⟩ := h
 · exact ⟨h1,.inl ⟨_,h3,h4,by omega⟩⟩
 · exact ⟨h1,.inr ⟨_,h3,h4,by omega⟩⟩
theorem gr_of {f : D.Func} (hto : ∀ b,b < f.Blocks.length → ∀ t ∈ (ix f.Blocks b).Term.To,1 ≤ t ∧ t < f.Blocks.length) {q t : Nat} (hq : q < f.Blocks.length) : prG (graphF f) q t ↔ (t : Int) ∈ (ix f.Blocks q).Term.To := by
 have h1 : ix (cleanM (graphF f)) q = keptM (ix (graphF f) q) (graphF f).length := by unfold cleanM; rw [ix_mapG (by rw [graph_len]; omega)]
 have h2 : ix (graphF f) q = keptM (ix f.Blocks q).Term.To f.Blocks.length := by unfold graphF; rw [ix_mapG (l := f.Blocks) (by omega)]
 unfold prG
 rw [h1,h2,graph_len,kept_kept,kept_mem]
 refine ⟨fun h => h.1,fun h3 => ⟨h3,?_⟩⟩
 have := hto q hq _ h3
 omega
theorem rb0 {pr : Nat → Nat → Prop} {b : Nat} (h : RB pr 0 b) : False := by
 induction h with
 | zero h => exact h rfl
 | step _ _ _ ih => exact ih
theorem clo_no {f : D.Func} (hto : ∀ b,b < f.Blocks.length → ∀ t ∈ (ix f.Blocks b).Term.To,1 ≤ t ∧ t < f.Blocks.length) {w b : Nat} {S : List Nat} (h : cloB f.Blocks w S = true) (hb : b ∉ S) : ¬ RB (prG (graphF f)) w b := fun hr => by
 unfold cloB at h
 simp only [Bool.and_eq_true,decide_eq_true_eq,List.all_eq_true,Bool.or_eq_true] at h
 have key : b ∈ S := by
   clear hb
   induction hr with
   | zero _ => exact h.1
   | @step x t h1 h2 h3 ih =>
     have hx : x < f.Blocks.length := by have := (prG_rng h2).1; rwa [graph_len] at this
     have h4 := (gr_of hto hx).1 h2
     rcases h.2 x ih _ h4 with h5 | h5
     · rwa [Int.toNat_natCast] at h5
     · rw [Int.toNat_natCast] at h5; exact absurd h5 h3
 exact hb key
theorem usB_us {f : D.Func} (hto : ∀ b,b < f.Blocks.length → ∀ t ∈ (ix f.Blocks b).Term.To,1 ≤ t ∧ t < f.Blocks.length) {pos : Int → Nat × Int} {S : Nat → List Nat} {v : Int} {b : Nat} {at' : Int} (h : usB f pos S v b at' = true) : US f v b at' := by
 unfold usB at h
 simp only [Bool.and_eq_true,Bool.or_eq_true,decide_eq_true_eq] at h
 rcases h with h | ⟨h1,h2⟩
 · exact .inl h
 · refine .inr ⟨_,_,posB_at h1,?_⟩
   rcases h2 with ⟨h2,h3⟩ | ⟨h2,h3⟩
   · exact .inl ⟨h2,h3⟩
   · refine .inr ⟨h2,?_⟩
     rcases h3 with h3 | ⟨h3,h4⟩
     · rw [h3]; exact rb0
     · exact clo_no hto h3 h4
theorem once_of {bs : List D.Block} (h : ∀ j,j < bs.length → (mkB (ix bs j)).Nodup) (h2 : ∀ i,i < bs.length → ∀ j,j < bs.length → i = j ∨ ∀ r ∈ mkB (ix bs i),¬ r ∈ mkB (ix bs j)) : Once bs := by
 have e : ∀ j,bs.length ≤ j → mkB (ix bs j) = [] := fun j hj => by rw [ix_out hj]; rfl
 refine ⟨fun j => ?_,fun i j hij r hr hr2 => ?_⟩
 · rcases Nat.lt_or_ge j bs.length with h3 | h3
   · exact h j h3
   · rw [e j h3]; exact List.nodup_nil
 · rcases Nat.lt_or_ge i bs.length with h3 | h3
   · rcases Nat.lt_or_ge j bs.length with h4 | h4
     · exact (h2 i h3 j h4).resolve_left hij r hr hr2
     · rw [e j h4] at hr2; cases hr2
   · rw [e i h3] at hr; cases hr
theorem pk_of {f : D.Func} (hto : ∀ b,b < f.Blocks.length → ∀ t ∈ (ix f.Blocks b).Term.To,1 ≤ t ∧ t < f.Blocks.length) {v : Nat} : ∀ k,k ≤ f.Blocks.length → predK (cleanM (graphF f)) k v = pT (f.Blocks.map (fun x => x.Term.To)) k v
 | 0,_ => rfl
 | k + 1,hk => by
   rw [predK,pT,pk_of hto k (by omega),ix_mapG (l := f.Blocks) (by omega)]
   congr 1
   have h1 : (v : Int) ∈ ix (cleanM (graphF f)) k ↔ (v : Int) ∈ (ix f.Blocks k).Term.To := gr_of hto (by omega)
   by_cases h2 : (v : Int) ∈ (ix f.Blocks k).Term.To
   · rw [if_pos (h1.2 h2),if_pos (List.any_eq_true.2 ⟨_,h2,by simp⟩)]
   · rw [if_neg (fun h3 => h2 (h1.1 h3)),if_neg (fun h3 => by
       obtain ⟨y,h4,h5⟩ := List.any_eq_true.1 h3
       simp at h5; subst h5; exact h2 h4)]
theorem rch_of {f : D.Func} (hl : 0 < f.Blocks.length) (hto : ∀ b,b < f.Blocks.length → ∀ t ∈ (ix f.Blocks b).Term.To,1 ≤ t ∧ t < f.Blocks.length) (hpb : ∀ c,c < f.Blocks.length → 1 ≤ c → ∃ p,p < c ∧ (c : Int) ∈ (ix f.Blocks p).Term.To) : ∀ (k b : Nat),b < k → b < f.Blocks.length → RB (prG (graphF f)) f.Blocks.length b
 | 0,b,hb,_ => absurd hb (Nat.not_lt_zero _)
 | k + 1,b,hk,hb => by
   by_cases e : b = 0
   · rw [e]; exact .zero (by omega)
   · obtain ⟨p,h1,h2⟩ := hpb b hb (by omega)
     exact .step (rch_of hl hto hpb k p (by omega) (by omega)) ((gr_of hto (by omega)).2 h2) (by omega)
def tmB (t : D.Term) : Bool := match shM t.Kind with
 | some s => decide (s.1 ≤ (t.Args.length : Int) ∧ (t.Args.length : Int) ≤ s.2.1) && decide (s.2.2.1 ≤ (t.To.length : Int) ∧ (t.To.length : Int) ≤ s.2.2.2)
 | none => false
theorem tmB_tm {t : D.Term} (h : tmB t = true) : ∃ s,shM t.Kind = some s ∧ (s.1 ≤ (t.Args.length : Int) ∧ (t.Args.length : Int) ≤ s.2.1) ∧ (s.2.2.1 ≤ (t.To.length : Int) ∧ (t.To.length : Int) ≤ s.2.2.2) := by
 unfold tmB at h
 split at h
 · rename_i s hs
   simp only [Bool.and_eq_true,decide_eq_true_eq] at h
   exact ⟨s,hs,h.1,h.2⟩
 · cases h
theorem good_gen {f : D.Func} (hp : 0 ≤ f.Params ∧ f.Params ≤ 4) (hl : 0 < f.Blocks.length ∧ f.Blocks.length ≤ 512) (hc : f.Blocks.length + cntF3 f.Blocks ≤ 4096) (ho : Once f.Blocks) (hr : ∀ b,b < f.Blocks.length → ∀ r ∈ mkB (ix f.Blocks b),f.Params ≤ r ∧ r ≤ 8191)
   (hop : ∀ b,b < f.Blocks.length → ∀ i ∈ (ix f.Blocks b).Ins,(1 ≤ i.Op ∧ i.Op ≤ 18) ∧ (operM i.Op).1 ≤ (i.Args.length : Int) ∧ (i.Args.length : Int) ≤ (operM i.Op).2) (htm : ∀ b,b < f.Blocks.length → tmB (ix f.Blocks b).Term = true)
   (hto : ∀ b,b < f.Blocks.length → ∀ t ∈ (ix f.Blocks b).Term.To,1 ≤ t ∧ t < f.Blocks.length) (hpb' : ∀ c,c < f.Blocks.length → 1 ≤ c → (List.range c).any (fun p => decide ((c : Int) ∈ (ix f.Blocks p).Term.To)) = true)
   (hfr : ∀ b,b < f.Blocks.length → ∀ p ∈ (ix f.Blocks b).Phis,0 < b ∧ p.In.map (fun x => x.From) = pT (f.Blocks.map (fun x => x.Term.To)) f.Blocks.length b) (pos : Int → Nat × Int) (S : Nat → List Nat)
   (hui : ∀ b,b < f.Blocks.length → ∀ i,i < (ix f.Blocks b).Ins.length → ∀ v ∈ (ix (ix f.Blocks b).Ins i).Args,usB f pos S v b i = true) (hut : ∀ b,b < f.Blocks.length → ∀ v ∈ (ix f.Blocks b).Term.Args,usB f pos S v b (ix f.Blocks b).Ins.length = true)
   (hup : ∀ b,b < f.Blocks.length → ∀ p ∈ (ix f.Blocks b).Phis,∀ x ∈ p.In,usB f pos S x.Val x.From.toNat (ix f.Blocks x.From.toNat).Ins.length = true) : GoodF f :=
 have hpb : ∀ c,c < f.Blocks.length → 1 ≤ c → ∃ p,p < c ∧ (c : Int) ∈ (ix f.Blocks p).Term.To := fun c h1 h2 => by
   obtain ⟨p,h3,h4⟩ := List.any_eq_true.1 (hpb' c h1 h2)
   exact ⟨p,List.mem_range.1 h3,of_decide_eq_true h4⟩
 ⟨hp,hl,hc,ho,hr,hop,fun b hb => tmB_tm (htm b hb),hto,fun b hb => ⟨_,rch_of hl.1 hto hpb (b + 1) b (Nat.lt_succ_self _) hb⟩,
   fun b hb p hp' => ⟨(hfr b hb p hp').1,by rw [(hfr b hb p hp').2,predsG_at,graph_len,pk_of hto _ (Nat.le_refl _)]⟩,
   fun b hb i hi v hv => usB_us hto (hui b hb i hi v hv),fun b hb v hv => usB_us hto (hut b hb v hv),fun b hb p hp' x hx => usB_us hto (hup b hb p hp' x hx)⟩
theorem blk_one {bs : List D.Block} {N a fr : Int} {k : Nat} {s s' : RSt} (h : lisF N (ix bs (Int.toNat a)).Ins (phisF fr (ix bs (Int.toNat a)).Phis s) = (s',true)) (h2 : s'.en = 0) (h3 : s'.st < N) (h4 : termE (ix bs (Int.toNat a)).Term 0 = 0) :
   blocksF bs N (k + 1) a fr s = blocksF bs N k (termB (ix bs (Int.toNat a)).Term s'.V) a (termF (ix bs (Int.toNat a)).Term { s' with st := s'.st + 1 }) := by
 have h5 := ok_t h2 h3
 rw [blk_go h h5.1 (by rw [h5.2]; show termE _ s'.en = 0; rw [h2]; exact h4) (Nat.succ_pos k),h5.2]; rfl
theorem blk_last {bs : List D.Block} {N a fr : Int} {k : Nat} {s s' : RSt} (h : lisF N (ix bs (Int.toNat a)).Ins (phisF fr (ix bs (Int.toNat a)).Phis s) = (s',true)) (h2 : s'.en = 0) (h3 : s'.st < N) (h4 : ¬ termE (ix bs (Int.toNat a)).Term 0 = 0) :
   blocksF bs N (k + 1) a fr s = termF (ix bs (Int.toNat a)).Term { s' with st := s'.st + 1 } := by
 have h5 := ok_t h2 h3
 rw [blk_end h h5.1 (by rw [h5.2]; show ¬ termE _ s'.en = 0; rw [h2]; exact h4) (Nat.succ_pos k),h5.2]
section
variable {N k i acc st fr : Int} {fuel : Nat} {V : Int → Int}
end
def phiF : D.Func := ⟨3,[⟨[],[⟨1,3,0,[],-1⟩],⟨1,[],[1],0⟩⟩,⟨[⟨4,[⟨0,0⟩,⟨2,5⟩]⟩,⟨5,[⟨0,1⟩,⟨2,4⟩]⟩,⟨6,[⟨0,2⟩,⟨2,7⟩]⟩],[],⟨2,[6],[2,3],0⟩⟩,⟨[],[⟨2,7,0,[6,3],0⟩],⟨1,[],[1],0⟩⟩,⟨[],[⟨17,8,0,[4,5],9⟩],ret3 4⟩]⟩
theorem phi_good : GoodF phiF := good_gen (by decide) (by decide) (by decide) (once_of (by decide) (by decide)) (by decide) (by decide) (by decide) (by decide) (by decide) (by decide)
 (fun v => if v = 3 then (0,0) else if v = 4 then (1,-1) else if v = 5 then (1,-2) else if v = 6 then (1,-3) else if v = 7 then (2,0) else (3,0)) (fun _ => [0]) (by decide) (by decide) (by decide)
section
variable {N i x y st fr : Int} {fuel : Nat} {V : Int → Int}
def PhiIn (fr : Int) (V : Int → Int) (x y i : Int) : Prop := V 3 = -1 ∧ ((fr = 0 ∧ V 0 = x ∧ V 1 = y ∧ V 2 = i) ∨ (fr = 2 ∧ V 5 = x ∧ V 4 = y ∧ V 7 = i))
theorem swap_phis (h : PhiIn fr V x y i) : (phisV fr [⟨4,[⟨0,0⟩,⟨2,5⟩]⟩,⟨5,[⟨0,1⟩,⟨2,4⟩]⟩,⟨6,[⟨0,2⟩,⟨2,7⟩]⟩] V) 3 = -1 ∧ (phisV fr [⟨4,[⟨0,0⟩,⟨2,5⟩]⟩,⟨5,[⟨0,1⟩,⟨2,4⟩]⟩,⟨6,[⟨0,2⟩,⟨2,7⟩]⟩] V) 4 = x ∧ (phisV fr [⟨4,[⟨0,0⟩,⟨2,5⟩]⟩,⟨5,[⟨0,1⟩,⟨2,4⟩]⟩,⟨6,[⟨0,2⟩,⟨2,7⟩]⟩] V) 5 = y ∧ (phisV fr [⟨4,[⟨0,0⟩,⟨2,5⟩]⟩,⟨5,[⟨0,1⟩,⟨2,4⟩]⟩,⟨6,[⟨0,2⟩,⟨2,7⟩]⟩] V) 6 = i := by
 obtain ⟨h0,⟨rfl,h1,h2,h3⟩ | ⟨rfl,h1,h2,h3⟩⟩ := h
 · exact ⟨h0,h1,h2,h3⟩
 · exact ⟨h0,h1,h2,h3⟩
theorem swap_head (h : PhiIn fr V x y i) (hst : st + 1 ≤ N) : ∃ V2,V2 3 = -1 ∧ V2 4 = x ∧ V2 5 = y ∧ V2 6 = i ∧
   blocksF phiF.Blocks N (fuel + 1) 1 fr ⟨V,0,0,[],[],st,[]⟩ = blocksF phiF.Blocks N fuel (if i = 0 then 3 else 2) 1 ⟨V2,0,0,[],[],st + 1,[]⟩ := by
 obtain ⟨h1,h2,h3,h4⟩ := swap_phis h
 have hl : lisF N (ix phiF.Blocks (Int.toNat 1)).Ins (phisF fr (ix phiF.Blocks (Int.toNat 1)).Phis ⟨V,0,0,[],[],st,[]⟩) = (⟨phisV fr [⟨4,[⟨0,0⟩,⟨2,5⟩]⟩,⟨5,[⟨0,1⟩,⟨2,4⟩]⟩,⟨6,[⟨0,2⟩,⟨2,7⟩]⟩] V,0,0,[],[],st,[]⟩,true) := rfl
 generalize phisV fr [⟨4,[⟨0,0⟩,⟨2,5⟩]⟩,⟨5,[⟨0,1⟩,⟨2,4⟩]⟩,⟨6,[⟨0,2⟩,⟨2,7⟩]⟩] V = V1 at h1 h2 h3 h4 hl
 refine ⟨V1,h1,h2,h3,h4,?_⟩
 rw [blk_one hl rfl (show st < N by omega) rfl,← h4]; rfl
theorem swap_turn (h : PhiIn fr V x y i) (hi : 0 < i ∧ i ≤ 1000) (hst : st + 3 ≤ N) : ∃ V',PhiIn 2 V' y x (i - 1) ∧
   blocksF phiF.Blocks N (fuel + 2) 1 fr ⟨V,0,0,[],[],st,[]⟩ = blocksF phiF.Blocks N fuel 1 2 ⟨V',0,0,[],[],st + 3,[]⟩ := by
 obtain ⟨V2,h1,h2,h3,h4,h5⟩ := swap_head (fuel := fuel + 1) h (show st + 1 ≤ N by omega)
 rw [h5,if_neg (by omega)]
 have hl : lisF N (ix phiF.Blocks (Int.toNat 2)).Ins (phisF 1 (ix phiF.Blocks (Int.toNat 2)).Phis ⟨V2,0,0,[],[],st + 1,[]⟩) = (⟨setV V2 7 (w32 (i + -1)),0,0,[],[],st + 1 + 1,[]⟩,true) := by
   show lisF N [⟨2,7,0,[6,3],0⟩] ⟨V2,0,0,[],[],st + 1,[]⟩ = _
   rw [lis_one rfl (show st + 1 < N by omega),← h4,← h1]; rfl
 refine ⟨setV V2 7 (w32 (i + -1)),⟨h1,.inr ⟨rfl,h3,h2,?_⟩⟩,?_⟩
 · show w32 (i + -1) = i - 1
   rw [w32,IntKind.wrap_i32]; omega
 · rw [blk_one hl rfl (show st + 1 + 1 < N by omega) rfl]
   rw [show st + 3 = st + 1 + 1 + 1 by omega]; rfl
theorem swap_out (h : PhiIn fr V x y 0) (hst : st + 3 ≤ N) : outF (blocksF phiF.Blocks N (fuel + 2) 1 fr ⟨V,0,0,[],[],st,[]⟩) = ⟨1,x,[],[⟨9,[x,y]⟩],st + 3⟩ := by
 obtain ⟨V2,h1,h2,h3,h4,h5⟩ := swap_head (fuel := fuel + 1) h (show st + 1 ≤ N by omega)
 rw [h5,if_pos rfl]
 have hl : lisF N (ix phiF.Blocks (Int.toNat 3)).Ins (phisF 1 (ix phiF.Blocks (Int.toNat 3)).Phis ⟨V2,0,0,[],[],st + 1,[]⟩) = (⟨setV V2 8 0,0,0,[],[⟨9,[x,y]⟩],st + 1 + 1,[]⟩,true) := by
   show lisF N [⟨17,8,0,[4,5],9⟩] ⟨V2,0,0,[],[],st + 1,[]⟩ = _
   rw [lis_one rfl (show st + 1 < N by omega),← h2,← h3]; rfl
 rw [blk_last hl rfl (show st + 1 + 1 < N by omega) (by decide),← h2,show st + 3 = st + 1 + 1 + 1 by omega]; rfl
end
theorem swap_all {N : Int} : ∀ (m : Nat) {x y st fr : Int} {fuel : Nat} {V : Int → Int},m ≤ 40 → PhiIn fr V x y m → st + 3 * m + 3 ≤ N → 2 * m + 2 ≤ fuel → ∃ s,outF (blocksF phiF.Blocks N fuel 1 fr ⟨V,0,0,[],[],st,[]⟩) = if m % 2 = 1 then ⟨1,y,[],[⟨9,[y,x]⟩],s⟩ else ⟨1,x,[],[⟨9,[x,y]⟩],s⟩
 | 0,x,y,st,fr,fuel,V,hm,h,hst,hf => by
   obtain ⟨g,rfl⟩ : ∃ g,fuel = g + 2 := ⟨fuel - 2,by omega⟩
   exact ⟨_,swap_out h (by omega)⟩
 | m + 1,x,y,st,fr,fuel,V,hm,h,hst,hf => by
   obtain ⟨g,rfl⟩ : ∃ g,fuel = g + 2 := ⟨fuel - 2,by omega⟩
   obtain ⟨V',h1,h2⟩ := swap_turn (N := N) (st := st) (fuel := g) h (by omega) (by omega)
   rw [h2]
   rw [show ((m + 1 : Nat) : Int) - 1 = (m : Int) by omega] at h1
   obtain ⟨s,h3⟩ := swap_all (N := N) m (by omega) h1 (st := st + 3) (fuel := g) (by omega) (by omega)
   refine ⟨s,h3.trans ?_⟩
   by_cases e : m % 2 = 1
   · rw [if_pos e,if_neg (by omega)]
   · rw [if_neg e,if_pos (by omega)]
theorem swap_run {a b k : Int} (hk : 0 ≤ k ∧ k ≤ 40) : ∃ s,runF phiF ⟨[a,b,k],[],[],1000⟩ = if k.toNat % 2 = 1 then ⟨1,b,[],[⟨9,[b,a]⟩],s⟩ else ⟨1,a,[],[⟨9,[a,b]⟩],s⟩ := by
 have hl : lisF 1000 (ix phiF.Blocks (Int.toNat 0)).Ins (phisF (-1) (ix phiF.Blocks (Int.toNat 0)).Phis (startF phiF ⟨[a,b,k],[],[],1000⟩)) = (⟨setV (argsV [a,b,k] 3) 3 (-1),0,0,[],[],1,[]⟩,true) := by
   show lisF 1000 [⟨1,3,0,[],-1⟩] ⟨argsV [a,b,k] 3,0,0,[],[],0,[]⟩ = _
   rw [lis_one rfl (show (0 : Int) < 1000 by decide)]; rfl
 have e : runF phiF ⟨[a,b,k],[],[],1000⟩ = outF (blocksF phiF.Blocks 1000 (1000 + 1) 0 (-1) (startF phiF ⟨[a,b,k],[],[],1000⟩)) := rfl
 rw [e,blk_one hl rfl (show (1 : Int) < 1000 by decide) rfl]
 exact swap_all (N := 1000) k.toNat (st := 2) (fr := 0) (fuel := 1000) (V := setV (argsV [a,b,k] 3) 3 (-1)) (by omega) ⟨rfl,.inl ⟨rfl,rfl,rfl,(show k = (k.toNat : Int) by omega)⟩⟩ (by omega) (by omega)
theorem swap_o {a b k : Int} {o : D.Outcome} (hk : 0 ≤ k ∧ k ≤ 40) (h : runF phiF ⟨[a,b,k],[],[],1000⟩ = o) : o.Calls.length = 1 ∧ (k % 2 = 1 → o.End = 1 ∧ o.Val = b ∧ o.Calls = [⟨9,[b,a]⟩]) ∧ (¬ k % 2 = 1 → o.End = 1 ∧ o.Val = a ∧ o.Calls = [⟨9,[a,b]⟩]) := by
 obtain ⟨s,h1⟩ := swap_run (a := a) (b := b) hk
 rw [h] at h1
 by_cases e : k.toNat % 2 = 1
 · rw [if_pos e] at h1; subst h1
   exact ⟨rfl,fun _ => ⟨rfl,rfl,rfl⟩,fun h2 => by omega⟩
 · rw [if_neg e] at h1; subst h1
   exact ⟨rfl,fun h2 => by omega,fun _ => ⟨rfl,rfl,rfl⟩⟩
theorem swap_a {a b k : Int} {o : D.Outcome} (hk : 0 ≤ k ∧ k < 41) (h : o.Calls.length = 1 ∧ (k % 2 = 1 → o.End = 1 ∧ o.Val = b ∧ o.Calls = [⟨9,[b,a]⟩]) ∧ (¬ k % 2 = 1 → o.End = 1 ∧ o.Val = a ∧ o.Calls = [⟨9,[a,b]⟩])) (hc : k.tmod 2 = 1) :
   true = (true && decide (o.End = 1) && decide (o.Val = ix [b,a] 0) && decide ((o.Calls.length : Int) = 1) && decide ((ix o.Calls 0).Callee = 9) && rowsM (ix o.Calls 0).Args [b,a]) := by
 rw [Int.tmod_eq_emod_of_nonneg (by omega)] at hc
 obtain ⟨h1,h2,h3⟩ := h.2.1 hc
 rw [h1,h2,h3]; simp [rowsM,ix]
theorem swap_b {a b k : Int} {o : D.Outcome} (hk : 0 ≤ k ∧ k < 41) (h : o.Calls.length = 1 ∧ (k % 2 = 1 → o.End = 1 ∧ o.Val = b ∧ o.Calls = [⟨9,[b,a]⟩]) ∧ (¬ k % 2 = 1 → o.End = 1 ∧ o.Val = a ∧ o.Calls = [⟨9,[a,b]⟩])) (hc : ¬ k.tmod 2 = 1) :
   true = (true && decide (o.End = 1) && decide (o.Val = ix [a,b] 0) && decide ((o.Calls.length : Int) = 1) && decide ((ix o.Calls 0).Callee = 9) && rowsM (ix o.Calls 0).Args [a,b]) := by
 rw [Int.tmod_eq_emod_of_nonneg (by omega)] at hc
 obtain ⟨h1,h2,h3⟩ := h.2.2 hc
 rw [h1,h2,h3]; simp [rowsM,ix]
abbrev U5 := @Try.underlying5
theorem E10 : Ent Try.prog 10 := ⟨_,Try.func10,by kernel_rfl,by kernel_rfl⟩
theorem I54 : (Try.prog.info? 54).map (fun i => (i.zero,i.size,i.bytes)) = some (some (.agg #[.int .i64 0,.int .i64 0]),2,16) := by kernel_rfl
theorem I57 : (Try.prog.info? 57).map (fun i => (i.zero,i.size,i.bytes)) = some (some (.agg #[.int .i64 0,.slice none 0 0]),2,32) := by kernel_rfl
attribute [local irreducible] runF
theorem u8m {n m : Int} (h : IntKind.u8.wrap n = n) (hm : 0 < m ∧ m ≤ 100) : 0 ≤ IntKind.i32.wrap (Int.tmod n m) ∧ IntKind.i32.wrap (Int.tmod n m) < m := by
 rw [IntKind.wrap_u8] at h
 rw [Int.tmod_eq_emod_of_nonneg (by omega),IntKind.wrap_i32]
 have := Int.emod_nonneg n (show m ≠ 0 by omega)
 have := Int.emod_lt_of_pos n hm.1
 omega
end Go.Proofs.Ytmfkkodnghambaa
namespace Go.Proofs.Ytmfkkodnghambaa
open Go.JE
attribute [local irreducible] runF
set_option maxRecDepth 8000 in
theorem phis_ct4 (a : Int) (b : Int) (n : Int) (ww0 : IntKind.i32.wrap a = a) (ww1 : IntKind.i32.wrap b = b) (ww2 : IntKind.u8.wrap n = n) : Tv Try.prog 6 #[.int .i32 a,.int .i32 b,.int .u8 n] [] [] (.bool true) := by
 refine jenter (args := [.int .i32 a,.int .i32 b,.int .u8 n]) Try.func6 rfl rfl rfl fun w0 X => ?_
 have hk := u8m (m := 41) ww2 (by decide)
 refine jq (jr (ja Z (jn (jx (jq (jr (jcv E10 Z Z shown4_ct dn kn (ja Z (jn (jx (jq ?_)))))))))))
 refine jr (jm Z (js (jrem Z Z (by decide)) (js (jco U5 U21 Z Z) ?_)))
 have hwk := JE.wrap_wrap .i32 (Int.tmod n 41)
 generalize hkk : IntKind.i32.wrap (Int.tmod n 41) = kk at hwk hk ⊢
 refine ja Z (jn (jx (jq (jr (js (jbu (v := .agg #[.int .i64 1,.int .i64 3,.int .i64 0,.slice none 0 0,.int .i32 ((-1))]) Z (fun _ => by kernel_rfl)) (jlit (r := rIns) (l := [⟨1,3,0,[],(-1)⟩]) U35 I34 (by decide) Z Z Z (lA (rIns.M (m := ⟨1,3,0,[],(-1)⟩) (c := (.slice none 0 0)) wN (wl 1) (wl 3) (wl 0) (wl (-1))) ln) fun g17 => jlit (r := (rI .i64)) (l := [1]) U32 I3 (by decide) Z Z Z (lV Z Z (wI (wl 1)) ln) fun g18 => js (jbu (v := .agg #[.int .i64 1,.slice none 0 0,(.slice (some ⟨g18,0,none⟩) 1 1),.int .i32 0]) Z (fun _ => by kernel_rfl)) (js (jbu (v := .agg #[.slice none 0 0,(.slice (some ⟨g17,0,none⟩) 1 1),.int .i64 1,.slice none 0 0,(.slice (some ⟨g18,0,none⟩) 1 1),.int .i32 0]) Z (fun _ => by kernel_rfl)) (js (jbu (v := .agg #[.int .i64 0,.int .i64 0]) Z (fun _ => by kernel_rfl)) (js (jbu (v := .agg #[.int .i64 2,.int .i64 5]) Z (fun _ => by kernel_rfl)) ?_)))))))))
 refine jlit (r := rIn) (l := [⟨0,0⟩,⟨2,5⟩]) U55 I54 (by decide) Z Z Z (lA (rIn.M (m := ⟨0,0⟩) (c := ()) (wl 0) (wl 0)) (lA (rIn.M (m := ⟨2,5⟩) (c := ()) (wl 2) (wl 5)) ln)) fun g23 => js (jbu (v := .agg #[.int .i64 4,(.slice (some ⟨g23,0,none⟩) 2 2)]) Z (fun _ => by kernel_rfl)) (js (jbu (v := .agg #[.int .i64 0,.int .i64 1]) Z (fun _ => by kernel_rfl)) (js (jbu (v := .agg #[.int .i64 2,.int .i64 4]) Z (fun _ => by kernel_rfl)) (jlit (r := rIn) (l := [⟨0,1⟩,⟨2,4⟩]) U55 I54 (by decide) Z Z Z (lA (rIn.M (m := ⟨0,1⟩) (c := ()) (wl 0) (wl 1)) (lA (rIn.M (m := ⟨2,4⟩) (c := ()) (wl 2) (wl 4)) ln)) fun g27 => js (jbu (v := .agg #[.int .i64 5,(.slice (some ⟨g27,0,none⟩) 2 2)]) Z (fun _ => by kernel_rfl)) (js (jbu (v := .agg #[.int .i64 0,.int .i64 2]) Z (fun _ => by kernel_rfl)) (js (jbu (v := .agg #[.int .i64 2,.int .i64 7]) Z (fun _ => by kernel_rfl)) (jlit (r := rIn) (l := [⟨0,2⟩,⟨2,7⟩]) U55 I54 (by decide) Z Z Z (lA (rIn.M (m := ⟨0,2⟩) (c := ()) (wl 0) (wl 2)) (lA (rIn.M (m := ⟨2,7⟩) (c := ()) (wl 2) (wl 7)) ln)) fun g31 => js (jbu (v := .agg #[.int .i64 6,(.slice (some ⟨g31,0,none⟩) 2 2)]) Z (fun _ => by kernel_rfl)) (jfz k2 (by (try simp) <;> omega) (jfz k1 (by (try simp) <;> omega) ?_))))))))
 refine jfz k0 (by (try simp) <;> omega) (jlit (r := rPhi) (l := [⟨4,[⟨0,0⟩,⟨2,5⟩]⟩,⟨5,[⟨0,1⟩,⟨2,4⟩]⟩,⟨6,[⟨0,2⟩,⟨2,7⟩]⟩]) U50 I57 (by decide) Z Z Z (lA (rPhi.M (m := ⟨4,[⟨0,0⟩,⟨2,5⟩]⟩) (c := (.slice (some ⟨g23,0,none⟩) 2 2)) d2 (wl 4)) (lA (rPhi.M (m := ⟨5,[⟨0,1⟩,⟨2,4⟩]⟩) (c := (.slice (some ⟨g27,0,none⟩) 2 2)) d1 (wl 5)) (lA (rPhi.M (m := ⟨6,[⟨0,2⟩,⟨2,7⟩]⟩) (c := (.slice (some ⟨g31,0,none⟩) 2 2)) d0 (wl 6)) ln))) fun g33 => jlit (r := (rI .i64)) (l := [6]) U32 I3 (by decide) Z Z Z (lV Z Z (wI (wl 6)) ln) fun g34 => jlit (r := (rI .i64)) (l := [2,3]) U32 I3 (by decide) Z Z Z (lV Z Z (wI (wl 2)) (lV Z Z (wI (wl 3)) ln)) fun g35 => js (jbu (v := .agg #[.int .i64 2,(.slice (some ⟨g34,0,none⟩) 1 1),(.slice (some ⟨g35,0,none⟩) 2 2),.int .i32 0]) Z (fun _ => by kernel_rfl)) (js (jbu (v := .agg #[(.slice (some ⟨g33,0,none⟩) 3 3),.slice none 0 0,.int .i64 2,(.slice (some ⟨g34,0,none⟩) 1 1),(.slice (some ⟨g35,0,none⟩) 2 2),.int .i32 0]) Z (fun _ => by kernel_rfl)) (jlit (r := (rI .i64)) (l := [6,3]) U32 I3 (by decide) Z Z Z (lV Z Z (wI (wl 6)) (lV Z Z (wI (wl 3)) ln)) fun g38 => js (jbu (v := .agg #[.int .i64 2,.int .i64 7,.int .i64 0,(.slice (some ⟨g38,0,none⟩) 2 2),.int .i32 0]) Z (fun _ => by kernel_rfl)) (jfz k0 (by (try simp) <;> omega) (jlit (r := rIns) (l := [⟨2,7,0,[6,3],0⟩]) U35 I34 (by decide) Z Z Z (lA (rIns.M (m := ⟨2,7,0,[6,3],0⟩) (c := (.slice (some ⟨g38,0,none⟩) 2 2)) d0 (wl 2) (wl 7) (wl 0) (wl 0)) ln) fun g40 => jlit (r := (rI .i64)) (l := [1]) U32 I3 (by decide) Z Z Z (lV Z Z (wI (wl 1)) ln) fun g41 => js (jbu (v := .agg #[.int .i64 1,.slice none 0 0,(.slice (some ⟨g41,0,none⟩) 1 1),.int .i32 0]) Z (fun _ => by kernel_rfl)) ?_)))))
 refine js (jbu (v := .agg #[.slice none 0 0,(.slice (some ⟨g40,0,none⟩) 1 1),.int .i64 1,.slice none 0 0,(.slice (some ⟨g41,0,none⟩) 1 1),.int .i32 0]) Z (fun _ => by kernel_rfl)) (jlit (r := (rI .i64)) (l := [4,5]) U32 I3 (by decide) Z Z Z (lV Z Z (wI (wl 4)) (lV Z Z (wI (wl 5)) ln)) fun g44 => js (jbu (v := .agg #[.int .i64 17,.int .i64 8,.int .i64 0,(.slice (some ⟨g44,0,none⟩) 2 2),.int .i32 9]) Z (fun _ => by kernel_rfl)) (jfz k0 (by (try simp) <;> omega) (jlit (r := rIns) (l := [⟨17,8,0,[4,5],9⟩]) U35 I34 (by decide) Z Z Z (lA (rIns.M (m := ⟨17,8,0,[4,5],9⟩) (c := (.slice (some ⟨g44,0,none⟩) 2 2)) d0 (wl 17) (wl 8) (wl 0) (wl 9)) ln) fun g46 => jcs2 E13 Z Z (ret4_ct 4 (by decide)) dn kn fun c47a c47b => jdq (rTerm.c_Args d0) fun q7 w7 => jdq (rTerm.c_To d0) fun q8 w8 => js (jbu (v := .agg #[.slice none 0 0,(.slice (some ⟨g46,0,none⟩) 1 1),.int .i64 ((ret3 4).Kind),c47a,c47b,.int .i32 ((ret3 4).Imm)]) Z (fun _ => by obtain ⟨_,_,_,rfl⟩ := w7; obtain ⟨_,_,_,rfl⟩ := w8; kernel_rfl)) (jfz k7 (by (try simp) <;> omega) (jfz k6 (by (try simp) <;> omega) (jfz k5 (by (try simp) <;> omega) ?_))))))
 refine jfz k4 (by (try simp) <;> omega) (jfz k3 (by (try simp) <;> omega) (jfz k2 (by (try simp) <;> omega) (jfz k1 (by (try simp) <;> omega) (jfz k0 (by (try simp) <;> omega) (jlit (r := rBlock) (l := [⟨[],[⟨1,3,0,[],(-1)⟩],⟨1,[],[1],0⟩⟩,⟨[⟨4,[⟨0,0⟩,⟨2,5⟩]⟩,⟨5,[⟨0,1⟩,⟨2,4⟩]⟩,⟨6,[⟨0,2⟩,⟨2,7⟩]⟩],[],⟨2,[6],[2,3],0⟩⟩,⟨[],[⟨2,7,0,[6,3],0⟩],⟨1,[],[1],0⟩⟩,⟨[],[⟨17,8,0,[4,5],9⟩],ret3 4⟩]) U28 I52 (by decide) Z Z Z (lA (rBlock.M (m := ⟨[],[⟨1,3,0,[],(-1)⟩],⟨1,[],[1],0⟩⟩) (c := (.slice none 0 0,(.slice (some ⟨g17,0,none⟩) 1 1),.slice none 0 0,(.slice (some ⟨g18,0,none⟩) 1 1))) wN d7 wN d6 (wl 1) (wl 0)) (lA (rBlock.M (m := ⟨[⟨4,[⟨0,0⟩,⟨2,5⟩]⟩,⟨5,[⟨0,1⟩,⟨2,4⟩]⟩,⟨6,[⟨0,2⟩,⟨2,7⟩]⟩],[],⟨2,[6],[2,3],0⟩⟩) (c := ((.slice (some ⟨g33,0,none⟩) 3 3),.slice none 0 0,(.slice (some ⟨g34,0,none⟩) 1 1),(.slice (some ⟨g35,0,none⟩) 2 2))) d5 wN d4 d3 (wl 2) (wl 0)) (lA (rBlock.M (m := ⟨[],[⟨2,7,0,[6,3],0⟩],⟨1,[],[1],0⟩⟩) (c := (.slice none 0 0,(.slice (some ⟨g40,0,none⟩) 1 1),.slice none 0 0,(.slice (some ⟨g41,0,none⟩) 1 1))) wN d2 wN d1 (wl 1) (wl 0)) (lA (rBlock.M (m := ⟨[],[⟨17,8,0,[4,5],9⟩],ret3 4⟩) (c := (.slice none 0 0,(.slice (some ⟨g46,0,none⟩) 1 1),c47a,c47b)) wN d0 (rTerm.c_Args d8) (rTerm.c_To d8) (rTerm.W_Kind d8) (rTerm.W_Imm d8)) ln)))) fun g49 => js (jbu (v := .agg #[.int .i64 3,(.slice (some ⟨g49,0,none⟩) 4 4)]) Z (fun _ => by kernel_rfl)) (jalc J30 Z fun g9 => jsta k0 Z30 Z Z Z ⟨Z,Z,trivial⟩ (saf Z) (jn (jx (jq ?_)))))))))
 refine jr (js (jla k0 A30 Z30 Z Z Z) (jm Z (jm Z (jm Z (jlit (r := (rI .i32)) (l := [a,b,kk]) U23 I21 (by decide) Z Z Z (lV Z Z (wI (wp ww0)) (lV Z Z (wI (wp ww1)) (lV Z Z (wI (wp hwk)) ln))) fun g55 => js (jbu (v := .agg #[(.slice (some ⟨g55,0,none⟩) 3 3),.slice none 0 0,.slice none 0 0,.int .i64 1000]) Z (fun _ => by kernel_rfl)) (jfz k2 (by (try simp) <;> omega) (jfz k0 (by (try simp) <;> omega) (jcs2 E11 Z Z (rRun_ct (i := ⟨[a,b,kk],[],[],1000⟩) (f := ⟨3,[⟨[],[⟨1,3,0,[],(-1)⟩],⟨1,[],[1],0⟩⟩,⟨[⟨4,[⟨0,0⟩,⟨2,5⟩]⟩,⟨5,[⟨0,1⟩,⟨2,4⟩]⟩,⟨6,[⟨0,2⟩,⟨2,7⟩]⟩],[],⟨2,[6],[2,3],0⟩⟩,⟨[],[⟨2,7,0,[6,3],0⟩],⟨1,[],[1],0⟩⟩,⟨[],[⟨17,8,0,[4,5],9⟩],ret3 4⟩]⟩) phi_good (show (1000 : Int) ≤ 1000000 by decide)) (dc (rFunc.M (m := ⟨3,[⟨[],[⟨1,3,0,[],(-1)⟩],⟨1,[],[1],0⟩⟩,⟨[⟨4,[⟨0,0⟩,⟨2,5⟩]⟩,⟨5,[⟨0,1⟩,⟨2,4⟩]⟩,⟨6,[⟨0,2⟩,⟨2,7⟩]⟩],[],⟨2,[6],[2,3],0⟩⟩,⟨[],[⟨2,7,0,[6,3],0⟩],⟨1,[],[1],0⟩⟩,⟨[],[⟨17,8,0,[4,5],9⟩],ret3 4⟩]⟩) (c := (.slice (some ⟨g49,0,none⟩) 4 4)) d1 (wl 3)) (dc (rInput.M (m := ⟨[a,b,kk],[],[],1000⟩) (c := ((.slice (some ⟨g55,0,none⟩) 3 3),.slice none 0 0,.slice none 0 0)) d0 wN wN (wl 1000)) dn)) kn fun c57a c57b => ?_))))))))
 generalize hoa : runF (⟨3,[⟨[],[⟨1,3,0,[],(-1)⟩],⟨1,[],[1],0⟩⟩,⟨[⟨4,[⟨0,0⟩,⟨2,5⟩]⟩,⟨5,[⟨0,1⟩,⟨2,4⟩]⟩,⟨6,[⟨0,2⟩,⟨2,7⟩]⟩],[],⟨2,[6],[2,3],0⟩⟩,⟨[],[⟨2,7,0,[6,3],0⟩],⟨1,[],[1],0⟩⟩,⟨[],[⟨17,8,0,[4,5],9⟩],ret3 4⟩]⟩) (⟨[a,b,kk],[],[],1000⟩) = oa at ⊢
 have hO := swap_o (a := a) (b := b) (k := kk) (by omega) hoa
 have hol := hO.1
 refine jalc J26 Z fun g10 => jdq (rOutcome.c_Mem d0) fun q20 w20 => jdq (rOutcome.c_Calls d0) fun q21 w21 => jsta k0 Z26 Z Z Z ⟨Z,Z,w20.one,w21.one,Z,trivial⟩ (saf Z) (jn (jx (jq (jr (jm Z (jm Z (jlit (r := (rI .i32)) (l := [a,b]) U23 I21 (by decide) Z Z Z (lV Z Z (wI (wp ww0)) (lV Z Z (wI (wp ww1)) ln)) fun g60 => ja Z ?_)))))))
 refine jn (jx (jq (jq (jr (jm Z (js (jrem Z Z (by decide)) (js (jeql Z Z) (jn (jx ?_)))))))))
 refine jif Z (fun hc1 => ?_) (fun hc1 => ?_)
 refine jr (jm Z (jm Z (jlit (r := (rI .i32)) (l := [b,a]) U23 I21 (by decide) Z Z Z (lV Z Z (wI (wp ww1)) (lV Z Z (wI (wp ww0)) ln)) fun g66 => ja Z (jn (jx (jq (jany false (.a 0 (.a 1 (.a 2 (.a 3 (.a 4 (.a 5 (.a 6 (.a 7 (.a 8 (.a 9 (.a 10 (.a 11 (.a 12 (.a 13 (.a 14 (.a 15 (.a 16 (.a 17 (.a 18 (.a 19 (.a 20 (.a 21 (.a 22 (.a 23 (.a 24 (.a 25 (.a 26 (.a 27 (.a 28 (.a 29 (.a 30 (.a 31 (.a 32 (.a 33 (.a 34 (.o 35 (.a 36 (.a 37 .e)))))))))))))))))))))))))))))))))))))) Mixed (by kernel_rfl) (kc k0 (kc k1 kn)) fun F22 => jy Z (jmv Z) (jy Z (jmv Z) (jyk Z Z Z (.t _) (jf F26_0 Z) ?_)))))))))
 refine jyk Z Z Z (.t _) (jl k1 O3 Z Z) (jyk Z Z Z (.t _) (jeql Z Z) (jy Z (jand Z Z) (jy Z (jmv Z) (jyg Z Z Z (.t _) (fun hg => jf F26_1 Z) (jyg Z Z Z (.t _) (fun hg => jl k1 O21 (evg Z hg) Z) (jyg Z Z Z (.t _) (fun hg => jmv Z) (jyg Z Z Z (.t _) (fun hg => jig (i := 0) U23 Z21 k0 (evg Z hg) Z Z (by first | omega | (simp at hg; omega) | (simp only [List.length_set]; omega) | (simp; done))) (jyg Z Z Z (.t _) (fun hg => jgI k0 (by first | omega | (simp at hg; omega) | (simp only [List.length_set]; omega) | (simp; done)) O21 (evg Z hg)) (jyg Z Z Z (.t _) (fun hg => jeql (evg Z hg) (evg Z hg)) (jy Z (jand Z Z) (jy Z (jmv Z) ?_)))))))))))
 refine jyg Z Z Z (.t _) (fun hg => jf F26_3 Z) (jyg Z Z Z (.t _) (fun hg => jl k1 O24 (evg Z hg) Z) (jyg Z Z Z (.t _) (fun hg => jln U24 (rOutcome.c_Calls d0) (evg Z hg)) (jyg Z Z Z (.t _) (fun hg => jeql (evg Z hg) Z) (jy Z (jand Z Z) (jy Z (jmv Z) (jyg Z Z Z (.t _) (fun hg => jf F26_3 Z) (jyg Z Z Z (.t _) (fun hg => jl k1 O24 (evg Z hg) Z) (jyg Z Z Z (.t _) (fun hg => jix (i := 0) U24 Z60 (rOutcome.c_Calls d0) (evg Z hg) Z Z (by first | omega | (simp at hg; omega) | (simp only [List.length_set]; omega) | (simp; done))) (jyg Z Z Z (.t _) (fun hg => jf F60_0 (evg Z hg)) (jyg Z Z Z (.t _) (fun hg => jlI (rEvent.A_Callee (dix (rOutcome.c_Calls d0) 0 (by first | omega | (simp at hg; omega) | (simp only [List.length_set]; omega) | (simp; done)))) O21 (evg Z hg)) (jyg Z Z Z (.t _) (fun hg => jeql (evg Z hg) Z) ?_)))))))))))
 refine jy Z (jand Z Z) (jy Z (jmv Z) (jyg Z Z Z (.t _) (fun hg => jf F26_3 Z) (jyg Z Z Z (.t _) (fun hg => jl k1 O24 (evg Z hg) Z) (jyg Z Z Z (.t _) (fun hg => jix (i := 0) U24 Z60 (rOutcome.c_Calls d0) (evg Z hg) Z Z (by first | omega | (simp at hg; omega) | (simp only [List.length_set]; omega) | (simp; done))) (jyg Z Z Z (.t _) (fun hg => jf F60_1 (evg Z hg)) (jyge (q := fun v => dv (rL (rI .i32)) v ((ix oa.Calls 0).Args)) Z Z Z (.t _) (fun hg => xlV (rEvent.A_Args (dix (rOutcome.c_Calls d0) 0 (by first | omega | (simp at hg; omega) | (simp only [List.length_set]; omega) | (simp; done)))) O23 Z (evg Z hg)) fun v100 => jyg Z Z Z (.t _) (fun hg => jmv Z) (jyo Z (jgc Z Z (.t _) E17 Z (fun hg => evl2 (evg Z hg) (evg Z hg)) (fun hg => (Tv.temp1 1073741824 words_ct (by (try simp) <;> omega))) (fun hg => (dc (d1.on hg) dn)) (kc k0 kn) p1 (jyn d0 (kc k0 (kc k1 kn)) (jy Z (jand Z Z) ?_))))))))))
 refine jy Z (jas Z) (jyd (jx (jrt ?_)))
 exact jrB Z Z (by first | exact swap_a hk hO hc1 | exact swap_b hk hO hc1)
 refine jsk (jx (jq (jany false (.a 0 (.a 1 (.a 2 (.a 3 (.a 4 (.a 5 (.a 6 (.a 7 (.a 8 (.a 9 (.a 10 (.a 11 (.a 12 (.a 13 (.a 14 (.a 15 (.a 16 (.a 17 (.a 18 (.a 19 (.a 20 (.a 21 (.a 22 (.a 23 (.a 24 (.a 25 (.a 26 (.a 27 (.a 28 (.a 29 (.a 30 (.a 31 (.a 32 (.a 33 (.a 34 (.o 35 (.a 36 (.a 37 .e)))))))))))))))))))))))))))))))))))))) Mixed (by kernel_rfl) (kd kn) fun F25 => jy Z (jmv Z) (jy Z (jmv Z) (jyk Z Z Z (.t _) (jf F26_0 Z) (jyk Z Z Z (.t _) (jl k1 O3 Z Z) (jyk Z Z Z (.t _) (jeql Z Z) (jy Z (jand Z Z) (jy Z (jmv Z) (jyg Z Z Z (.t _) (fun hg => jf F26_1 Z) ?_))))))))))
 refine jyg Z Z Z (.t _) (fun hg => jl k1 O21 (evg Z hg) Z) (jyg Z Z Z (.t _) (fun hg => jmv Z) (jyg Z Z Z (.t _) (fun hg => jig (i := 0) U23 Z21 k0 (evg Z hg) Z Z (by first | omega | (simp at hg; omega) | (simp only [List.length_set]; omega) | (simp; done))) (jyg Z Z Z (.t _) (fun hg => jgI k0 (by first | omega | (simp at hg; omega) | (simp only [List.length_set]; omega) | (simp; done)) O21 (evg Z hg)) (jyg Z Z Z (.t _) (fun hg => jeql (evg Z hg) (evg Z hg)) (jy Z (jand Z Z) (jy Z (jmv Z) (jyg Z Z Z (.t _) (fun hg => jf F26_3 Z) (jyg Z Z Z (.t _) (fun hg => jl k1 O24 (evg Z hg) Z) (jyg Z Z Z (.t _) (fun hg => jln U24 (rOutcome.c_Calls d0) (evg Z hg)) (jyg Z Z Z (.t _) (fun hg => jeql (evg Z hg) Z) (jy Z (jand Z Z) ?_)))))))))))
 refine jy Z (jmv Z) (jyg Z Z Z (.t _) (fun hg => jf F26_3 Z) (jyg Z Z Z (.t _) (fun hg => jl k1 O24 (evg Z hg) Z) (jyg Z Z Z (.t _) (fun hg => jix (i := 0) U24 Z60 (rOutcome.c_Calls d0) (evg Z hg) Z Z (by first | omega | (simp at hg; omega) | (simp only [List.length_set]; omega) | (simp; done))) (jyg Z Z Z (.t _) (fun hg => jf F60_0 (evg Z hg)) (jyg Z Z Z (.t _) (fun hg => jlI (rEvent.A_Callee (dix (rOutcome.c_Calls d0) 0 (by first | omega | (simp at hg; omega) | (simp only [List.length_set]; omega) | (simp; done)))) O21 (evg Z hg)) (jyg Z Z Z (.t _) (fun hg => jeql (evg Z hg) Z) (jy Z (jand Z Z) (jy Z (jmv Z) (jyg Z Z Z (.t _) (fun hg => jf F26_3 Z) (jyg Z Z Z (.t _) (fun hg => jl k1 O24 (evg Z hg) Z) (jyg Z Z Z (.t _) (fun hg => jix (i := 0) U24 Z60 (rOutcome.c_Calls d0) (evg Z hg) Z Z (by first | omega | (simp at hg; omega) | (simp only [List.length_set]; omega) | (simp; done))) ?_)))))))))))
 refine jyg Z Z Z (.t _) (fun hg => jf F60_1 (evg Z hg)) (jyge (q := fun v => dv (rL (rI .i32)) v ((ix oa.Calls 0).Args)) Z Z Z (.t _) (fun hg => xlV (rEvent.A_Args (dix (rOutcome.c_Calls d0) 0 (by first | omega | (simp at hg; omega) | (simp only [List.length_set]; omega) | (simp; done)))) O23 Z (evg Z hg)) fun v100_26 => jyg Z Z Z (.t _) (fun hg => jmv Z) (jyo Z (jgc Z Z (.t _) E17 Z (fun hg => evl2 (evg Z hg) (evg Z hg)) (fun hg => (Tv.temp1 1073741824 words_ct (by (try simp) <;> omega))) (fun hg => (dc (d1.on hg) dn)) (kc k0 kn) p1 (jyn d0 (kd kn) (jy Z (jand Z Z) (jy Z (jas Z) (jyd (jx (jrt ?_)))))))))
 exact jrB Z Z (by first | exact swap_a hk hO hc1 | exact swap_b hk hO hc1)
end Go.Proofs.Ytmfkkodnghambaa
