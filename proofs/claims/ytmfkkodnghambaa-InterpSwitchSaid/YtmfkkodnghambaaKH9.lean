/- Lemmas that the claim is made of. Conditions: each lemma names its own. -/
import Derived.Test.YtmfkkodnghambaaKH8
import Derived.Test.YtmfkkodnghambaaKH3
import Derived.Test.YtmfkkodnghambaaKH5
set_option linter.unusedSectionVars false
set_option linter.unusedSimpArgs false
set_option linter.unusedVariables false
namespace Go.Proofs.Ytmfkkodnghambaa
open Go.JE
def posB (bs : List D.Block) (v : Int) (wb : Nat) (wp : Int) : Bool := decide (wb < bs.length) && ((decide (wp < 0) && decide (Int.toNat (-1 - wp) < (ix bs wb).Phis.length) && decide (v = (ix (ix bs wb).Phis (Int.toNat (-1 - wp))).Dst)) || (decide (0 ≤ wp) && decide (Int.toNat wp < (ix bs wb).Ins.length) && decide (v ∈ makes3 (ix (ix bs wb).Ins (Int.toNat wp)))))
def cloB (bs : List D.Block) (w : Nat) (S : List Nat) : Bool := decide (0 ∈ S) && S.all (fun x => (ix bs x).Term.To.all (fun t => decide (t.toNat ∈ S) || decide (t.toNat = w)))
def usB (f : D.Func) (pos : Int → Nat × Int) (S : Nat → List Nat) (v : Int) (b : Nat) (at' : Int) : Bool :=
 (decide (0 ≤ v) && decide (v < f.Params)) || (posB f.Blocks v (pos v).1 (pos v).2 && ((decide ((pos v).1 = b) && (decide ((pos v).2 < at') || decide ((pos v).2 < 0))) || (decide ((pos v).1 ≠ b) && (decide ((pos v).1 = 0) || (cloB f.Blocks (pos v).1 (S (pos v).1) && decide (b ∉ S (pos v).1))))))
theorem posB_at {bs : List D.Block} {v : Int} {wb : Nat} {wp : Int} (h : posB bs v wb wp = true) : PosAt bs v wb wp := by
 unfold posB at h
 simp only [Bool.and_eq_true,Bool.or_eq_true,decide_eq_true_eq] at h
 obtain ⟨h1,⟨⟨h2,h3⟩,h4⟩ | ⟨⟨h2,h3⟩,h4⟩⟩ := h
 · exact ⟨h1,.inl ⟨_,h3,h4,by omega⟩⟩
 · exact ⟨h1,.inr ⟨_,h3,h4,by omega⟩⟩
theorem gr_of {f : D.Func} (hto : ∀ b,b < f.Blocks.length → ∀ t ∈ (ix f.Blocks b).Term.To,1 ≤ t ∧ t < f.Blocks.length) {q t : Nat} (hq : q < f.Blocks.length) : prG (graphF f) q t ↔ (t : Int) ∈ (ix f.Blocks q).Term.To := by
 have h1 : ix (cleanM (graphF f)) q = keptM (ix (graphF f) q) (graphF f).length := by unfold cleanM; rw [ix_mapG (by rw [graph_len]; omega)]
 have h2 : ix (graphF f) q = keptM (ix f.Blocks q).Term.To f.Blocks.length := by unfold graphF; rw [ix_mapG (l := f.Blocks) (by omega)]
 unfold prG
 rw [h1,h2,graph_len,kept_kept,kept_mem]
 refine ⟨fun h => h.1,fun h3 => ⟨h3,?_⟩⟩
 have := hto q hq _ h3
 omega
theorem rb0 {pr : Nat → Nat → Prop} {b : Nat} (h : RB pr 0 b) : False := by
 induction h with
 | zero h => exact h rfl
 | step _ _ _ ih => exact ih
theorem clo_no {f : D.Func} (hto : ∀ b,b < f.Blocks.length → ∀ t ∈ (ix f.Blocks b).Term.To,1 ≤ t ∧ t < f.Blocks.length) {w b : Nat} {S : List Nat} (h : cloB f.Blocks w S = true) (hb : b ∉ S) : ¬ RB (prG (graphF f)) w b := fun hr => by
 unfold cloB at h
 simp only [Bool.and_eq_true,decide_eq_true_eq,List.all_eq_true,Bool.or_eq_true] at h
 have key : b ∈ S := by
   clear hb
   induction hr with
   | zero _ => exact h.1
   | @step x t h1 h2 h3 ih =>
     have hx : x < f.Blocks.length := by have := (prG_rng h2).1; rwa [graph_len] at this
     have h4 := (gr_of hto hx).1 h2
     rcases h.2 x ih _ h4 with h5 | h5
     · rwa [Int.toNat_natCast] at h5
     · rw [Int.toNat_natCast] at h5; exact absurd h5 h3
 exact hb key
theorem usB_us {f : D.Func} (hto : ∀ b,b < f.Blocks.length → ∀ t ∈ (ix f.Blocks b).Term.To,1 ≤ t ∧ t < f.Blocks.length) {pos : Int → Nat × Int} {S : Nat → List Nat} {v : Int} {b : Nat} {at' : Int} (h : usB f pos S v b at' = true) : US f v b at' := by
 unfold usB at h
 simp only [Bool.and_eq_true,Bool.or_eq_true,decide_eq_true_eq] at h
 rcases h with h | ⟨h1,h2⟩
 · exact .inl h
 · refine .inr ⟨_,_,posB_at h1,?_⟩
   rcases h2 with ⟨h2,h3⟩ | ⟨h2,h3⟩
   · exact .inl ⟨h2,h3⟩
   · refine .inr ⟨h2,?_⟩
     rcases h3 with h3 | ⟨h3,h4⟩
     · rw [h3]; exact rb0
     · exact clo_no hto h3 h4
theorem once_of {bs : List D.Block} (h : ∀ j,j < bs.length → (mkB (ix bs j)).Nodup) (h2 : ∀ i,i < bs.length → ∀ j,j < bs.length → i = j ∨ ∀ r ∈ mkB (ix bs i),¬ r ∈ mkB (ix bs j)) : Once bs := by
 have e : ∀ j,bs.length ≤ j → mkB (ix bs j) = [] := fun j hj => by rw [ix_out hj]; rfl
 refine ⟨fun j => ?_,fun i j hij r hr hr2 => ?_⟩
 · rcases Nat.lt_or_ge j bs.length with h3 | h3
   · exact h j h3
   · rw [e j h3]; exact List.nodup_nil
 · rcases Nat.lt_or_ge i bs.length with h3 | h3
   · rcases Nat.lt_or_ge j bs.length with h4 | h4
     · exact (h2 i h3 j h4).resolve_left hij r hr hr2
     · rw [e j h4] at hr2; cases hr2
   · rw [e i h3] at hr; cases hr
theorem pk_of {f : D.Func} (hto : ∀ b,b < f.Blocks.length → ∀ t ∈ (ix f.Blocks b).Term.To,1 ≤ t ∧ t < f.Blocks.length) {v : Nat} : ∀ k,k ≤ f.Blocks.length → predK (cleanM (graphF f)) k v = pT (f.Blocks.map (fun x => x.Term.To)) k v
 | 0,_ => rfl
 | k + 1,hk => by
   rw [predK,pT,pk_of hto k (by omega),ix_mapG (l := f.Blocks) (by omega)]
   congr 1
   have h1 : (v : Int) ∈ ix (cleanM (graphF f)) k ↔ (v : Int) ∈ (ix f.Blocks k).Term.To := gr_of hto (by omega)
   by_cases h2 : (v : Int) ∈ (ix f.Blocks k).Term.To
   · rw [if_pos (h1.2 h2),if_pos (List.any_eq_true.2 ⟨_,h2,by simp⟩)]
   · rw [if_neg (fun h3 => h2 (h1.1 h3)),if_neg (fun h3 => by
       obtain ⟨y,h4,h5⟩ := List.any_eq_true.1 h3
       simp at h5; subst h5; exact h2 h4)]
theorem rch_of {f : D.Func} (hl : 0 < f.Blocks.length) (hto : ∀ b,b < f.Blocks.length → ∀ t ∈ (ix f.Blocks b).Term.To,1 ≤ t ∧ t < f.Blocks.length) (hpb : ∀ c,c < f.Blocks.length → 1 ≤ c → ∃ p,p < c ∧ (c : Int) ∈ (ix f.Blocks p).Term.To) : ∀ (k b : Nat),b < k → b < f.Blocks.length → RB (prG (graphF f)) f.Blocks.length b
 | 0,b,hb,_ => absurd hb (Nat.not_lt_zero _)
 | k + 1,b,hk,hb => by
   by_cases e : b = 0
   · rw [e]; exact .zero (by omega)
   · obtain ⟨p,h1,h2⟩ := hpb b hb (by omega)
     exact .step (rch_of hl hto hpb k p (by omega) (by omega)) ((gr_of hto (by omega)).2 h2) (by omega)
def tmB (t : D.Term) : Bool := match shM t.Kind with
 | some s => decide (s.1 ≤ (t.Args.length : Int) ∧ (t.Args.length : Int) ≤ s.2.1) && decide (s.2.2.1 ≤ (t.To.length : Int) ∧ (t.To.length : Int) ≤ s.2.2.2)
 | none => false
theorem tmB_tm {t : D.Term} (h : tmB t = true) : ∃ s,shM t.Kind = some s ∧ (s.1 ≤ (t.Args.length : Int) ∧ (t.Args.length : Int) ≤ s.2.1) ∧ (s.2.2.1 ≤ (t.To.length : Int) ∧ (t.To.length : Int) ≤ s.2.2.2) := by
 unfold tmB at h
 split at h
 · rename_i s hs
   simp only [Bool.and_eq_true,decide_eq_true_eq] at h
   exact ⟨s,hs,h.1,h.2⟩
 · cases h
theorem good_gen {f : D.Func} (hp : 0 ≤ f.Params ∧ f.Params ≤ 4) (hl : 0 < f.Blocks.length ∧ f.Blocks.length ≤ 512) (hc : f.Blocks.length + cntF3 f.Blocks ≤ 4096) (ho : Once f.Blocks) (hr : ∀ b,b < f.Blocks.length → ∀ r ∈ mkB (ix f.Blocks b),f.Params ≤ r ∧ r ≤ 8191)
   (hop : ∀ b,b < f.Blocks.length → ∀ i ∈ (ix f.Blocks b).Ins,(1 ≤ i.Op ∧ i.Op ≤ 18) ∧ (operM i.Op).1 ≤ (i.Args.length : Int) ∧ (i.Args.length : Int) ≤ (operM i.Op).2) (htm : ∀ b,b < f.Blocks.length → tmB (ix f.Blocks b).Term = true)
   (hto : ∀ b,b < f.Blocks.length → ∀ t ∈ (ix f.Blocks b).Term.To,1 ≤ t ∧ t < f.Blocks.length) (hpb' : ∀ c,c < f.Blocks.length → 1 ≤ c → (List.range c).any (fun p => decide ((c : Int) ∈ (ix f.Blocks p).Term.To)) = true)
   (hfr : ∀ b,b < f.Blocks.length → ∀ p ∈ (ix f.Blocks b).Phis,0 < b ∧ p.In.map (fun x => x.From) = pT (f.Blocks.map (fun x => x.Term.To)) f.Blocks.length b) (pos : Int → Nat × Int) (S : Nat → List Nat)
   (hui : ∀ b,b < f.Blocks.length → ∀ i,i < (ix f.Blocks b).Ins.length → ∀ v ∈ (ix (ix f.Blocks b).Ins i).Args,usB f pos S v b i = true) (hut : ∀ b,b < f.Blocks.length → ∀ v ∈ (ix f.Blocks b).Term.Args,usB f pos S v b (ix f.Blocks b).Ins.length = true)
   (hup : ∀ b,b < f.Blocks.length → ∀ p ∈ (ix f.Blocks b).Phis,∀ x ∈ p.In,usB f pos S x.Val x.From.toNat (ix f.Blocks x.From.toNat).Ins.length = true) : GoodF f :=
 have hpb : ∀ c,c < f.Blocks.length → 1 ≤ c → ∃ p,p < c ∧ (c : Int) ∈ (ix f.Blocks p).Term.To := fun c h1 h2 => by
   obtain ⟨p,h3,h4⟩ := List.any_eq_true.1 (hpb' c h1 h2)
   exact ⟨p,List.mem_range.1 h3,of_decide_eq_true h4⟩
 ⟨hp,hl,hc,ho,hr,hop,fun b hb => tmB_tm (htm b hb),hto,fun b hb => ⟨_,rch_of hl.1 hto hpb (b + 1) b (Nat.lt_succ_self _) hb⟩,
   fun b hb p hp' => ⟨(hfr b hb p hp').1,by rw [(hfr b hb p hp').2,predsG_at,graph_len,pk_of hto _ (Nat.le_refl _)]⟩,
   fun b hb i hi v hv => usB_us hto (hui b hb i hi v hv),fun b hb v hv => usB_us hto (hut b hb v hv),fun b hb p hp' x hx => usB_us hto (hup b hb p hp' x hx)⟩
theorem blk_one {bs : List D.Block} {N a fr : Int} {k : Nat} {s s' : RSt} (h : lisF N (ix bs (Int.toNat a)).Ins (phisF fr (ix bs (Int.toNat a)).Phis s) = (s',true)) (h2 : s'.en = 0) (h3 : s'.st < N) (h4 : termE (ix bs (Int.toNat a)).Term 0 = 0) :
   blocksF bs N (k + 1) a fr s = blocksF bs N k (termB (ix bs (Int.toNat a)).Term s'.V) a (termF (ix bs (Int.toNat a)).Term { s' with st := s'.st + 1 }) := by
 have h5 := ok_t h2 h3
 rw [blk_go h h5.1 (by rw [h5.2]; show termE _ s'.en = 0; rw [h2]; exact h4) (Nat.succ_pos k),h5.2]; rfl
theorem blk_last {bs : List D.Block} {N a fr : Int} {k : Nat} {s s' : RSt} (h : lisF N (ix bs (Int.toNat a)).Ins (phisF fr (ix bs (Int.toNat a)).Phis s) = (s',true)) (h2 : s'.en = 0) (h3 : s'.st < N) (h4 : ¬ termE (ix bs (Int.toNat a)).Term 0 = 0) :
   blocksF bs N (k + 1) a fr s = termF (ix bs (Int.toNat a)).Term { s' with st := s'.st + 1 } := by
 have h5 := ok_t h2 h3
 rw [blk_end h h5.1 (by rw [h5.2]; show ¬ termE _ s'.en = 0; rw [h2]; exact h4) (Nat.succ_pos k),h5.2]
section
variable {N k i acc st fr : Int} {fuel : Nat} {V : Int → Int}
end
def trapB (i : Nat) : D.Block := ⟨[],[],⟨5,[],[],i⟩⟩
def swTo (k : Nat) : List Int := (List.range k).map (fun i : Nat => (i : Int) + 1)
def swB (k : Nat) : List D.Block := ⟨[],[],⟨3,[0],swTo k,0⟩⟩ :: (List.range k).map trapB
def swF (k : Nat) : D.Func := ⟨1,swB k⟩
theorem swTo_len {k : Nat} : (swTo k).length = k := by simp [swTo]
theorem swB_len {k : Nat} : (swB k).length = k + 1 := by simp [swB]
theorem swTo_ix {k i : Nat} (h : i < k) : ix (swTo k) i = (i : Int) + 1 := by unfold swTo; rw [ix_mapG (by simpa using h),ix_eq (by simpa using h)]; simp
theorem swB_ix {k i : Nat} (h : i < k) : ix (swB k) (i + 1) = trapB i := by unfold swB; rw [ix_cons,ix_mapG (by simpa using h),ix_eq (by simpa using h)]; simp
theorem swB_cases {k b : Nat} (h : b < (swB k).length) : ix (swB k) b = ⟨[],[],⟨3,[0],swTo k,0⟩⟩ ∧ b = 0 ∨ ∃ i,i < k ∧ b = i + 1 ∧ ix (swB k) b = trapB i := by
 rw [swB_len] at h
 cases b with
 | zero => exact .inl ⟨rfl,rfl⟩
 | succ i => exact .inr ⟨i,by omega,rfl,swB_ix (by omega)⟩
theorem sw_good {k : Nat} (h : 2 ≤ k ∧ k ≤ 65) : GoodF (swF k) := by
 have hph : ∀ b,b < (swB k).length → (ix (swB k) b).Phis = [] ∧ (ix (swB k) b).Ins = [] := fun b hb => by
   rcases swB_cases hb with ⟨e,_⟩ | ⟨i,_,_,e⟩ <;> rw [e] <;> exact ⟨rfl,rfl⟩
 have hmk : ∀ b,b < (swB k).length → mkB (ix (swB k) b) = [] := fun b hb => by unfold mkB; rw [(hph b hb).1,(hph b hb).2]; rfl
 have hc : ∀ l : List D.Block,(∀ x ∈ l,x.Phis = [] ∧ x.Ins = []) → cntF3 l = 0 := by
   intro l
   induction l with
   | nil => intro _; rfl
   | cons x l ih =>
     intro h9
     have e := h9 x (by simp)
     have e2 := ih (fun y hy => h9 y (by simp [hy]))
     unfold cntF3 at e2 ⊢
     rw [List.map_cons,List.sum_cons,e2,e.1,e.2]; rfl
 have hall : ∀ x ∈ swB k,x.Phis = [] ∧ x.Ins = [] := fun x hx => by
   obtain ⟨j,hj,e⟩ := List.getElem_of_mem hx
   rw [← e,← ix_eq hj]; exact hph j hj
 have hto : ∀ b,b < (swB k).length → ∀ t ∈ (ix (swB k) b).Term.To,1 ≤ t ∧ t < ((swB k).length : Int) := fun b hb t ht => by
   rw [swB_len]
   rcases swB_cases hb with ⟨e,_⟩ | ⟨i,_,_,e⟩
   · rw [e] at ht
     have ht : t ∈ swTo k := ht
     unfold swTo at ht
     obtain ⟨i,h1,h2⟩ := List.mem_map.1 ht
     have := List.mem_range.1 h1
     omega
   · rw [e] at ht; cases ht
 refine good_gen (show (0 : Int) ≤ 1 ∧ (1 : Int) ≤ 4 by decide) ⟨by show 0 < (swB k).length; rw [swB_len]; omega,by show (swB k).length ≤ 512; rw [swB_len]; omega⟩ (by show (swB k).length + cntF3 (swB k) ≤ 4096; rw [hc _ hall,swB_len]; omega)
   (once_of (fun j hj => by rw [show mkB (ix (swF k).Blocks j) = [] from hmk j hj]; exact List.nodup_nil) (fun i hi j hj => .inr fun r hr => by rw [show mkB (ix (swF k).Blocks i) = [] from hmk i hi] at hr; cases hr))
   (fun b hb r hr => by rw [show mkB (ix (swF k).Blocks b) = [] from hmk b hb] at hr; cases hr) (fun b hb i hi => by rw [show (ix (swF k).Blocks b).Ins = [] from (hph b hb).2] at hi; cases hi) (fun b hb => ?_) hto (fun c hc h1 => ?_)
   (fun b hb p hp => by rw [show (ix (swF k).Blocks b).Phis = [] from (hph b hb).1] at hp; cases hp) (fun _ => (0,0)) (fun _ => []) (fun b hb i hi => by rw [show (ix (swF k).Blocks b).Ins = [] from (hph b hb).2] at hi; exact absurd hi (Nat.not_lt_zero _))
   (fun b hb v hv => ?_) (fun b hb p hp => by rw [show (ix (swF k).Blocks b).Phis = [] from (hph b hb).1] at hp; cases hp)
 · show tmB (ix (swB k) b).Term = true
   rcases swB_cases hb with ⟨e,_⟩ | ⟨i,_,_,e⟩
   · rw [e]
     have : tmB ⟨3,[0],swTo k,0⟩ = (decide ((1 : Int) ≤ 1 ∧ (1 : Int) ≤ 1) && decide ((2 : Int) ≤ ((swTo k).length : Int) ∧ ((swTo k).length : Int) ≤ 65)) := rfl
     show tmB ⟨3,[0],swTo k,0⟩ = true
     rw [this,swTo_len]; simp; omega
   · rw [e]; rfl
 · have hc : c < (swB k).length := hc
   rw [swB_len] at hc
   rw [List.any_eq_true]
   refine ⟨0,List.mem_range.2 (by omega),?_⟩
   show decide ((c : Int) ∈ swTo k) = true
   rw [decide_eq_true_eq]; unfold swTo
   exact List.mem_map.2 ⟨c - 1,List.mem_range.2 (by omega),by omega⟩
 · have hv : v ∈ (ix (swB k) b).Term.Args := hv
   have : v = 0 := by
     rcases swB_cases hb with ⟨e,_⟩ | ⟨i,_,_,e⟩
     · rw [e] at hv; have hv : v ∈ [(0 : Int)] := hv; simpa using hv
     · rw [e] at hv; cases hv
   subst this
   unfold usB; simp [show (swF k).Params = 1 from rfl]
theorem sw_run {k : Nat} {v : Int} (h : 2 ≤ k ∧ k ≤ 65) : runF (swF k) ⟨[v],[],[],2⟩ = ⟨2,min (IntKind.u32.wrap v) ((k : Int) - 1),[],[],2⟩ := by
 have hu := u32_nn v
 have hl : lisF 2 (ix (swF k).Blocks (Int.toNat 0)).Ins (phisF (-1) (ix (swF k).Blocks (Int.toNat 0)).Phis (startF (swF k) ⟨[v],[],[],2⟩)) = (⟨argsV [v] 1,0,0,[],[],0,[]⟩,true) := rfl
 show outF (blocksF (swF k).Blocks 2 (1 + 1 + 1) 0 (-1) (startF (swF k) ⟨[v],[],[],2⟩)) = _
 rw [blk_one hl rfl (show (0 : Int) < 2 by decide) rfl]
 have ht : termB (ix (swF k).Blocks (Int.toNat 0)).Term (argsV [v] 1) = min (IntKind.u32.wrap v) ((k : Int) - 1) + 1 := by
   show ix (swTo k) (Int.toNat (min (IntKind.u32.wrap v) (((swTo k).length : Int) - 1))) = _
   rw [swTo_len,swTo_ix (by omega)]; omega
 rw [ht]
 have e : ix (swF k).Blocks (Int.toNat (min (IntKind.u32.wrap v) ((k : Int) - 1) + 1)) = trapB (Int.toNat (min (IntKind.u32.wrap v) ((k : Int) - 1))) := by
   rw [show Int.toNat (min (IntKind.u32.wrap v) ((k : Int) - 1) + 1) = Int.toNat (min (IntKind.u32.wrap v) ((k : Int) - 1)) + 1 by omega]
   exact swB_ix (by omega)
 have hl2 : lisF 2 (ix (swF k).Blocks (Int.toNat (min (IntKind.u32.wrap v) ((k : Int) - 1) + 1))).Ins (phisF 0 (ix (swF k).Blocks (Int.toNat (min (IntKind.u32.wrap v) ((k : Int) - 1) + 1))).Phis ⟨argsV [v] 1,0,0,[],[],1,[]⟩) = (⟨argsV [v] 1,0,0,[],[],1,[]⟩,true) := by rw [e]; rfl
 have h3 := blk_last (bs := (swF k).Blocks) (N := 2) (a := min (IntKind.u32.wrap v) ((k : Int) - 1) + 1) (fr := 0) (k := 1) hl2 rfl (show (1 : Int) < 2 by decide) (by rw [e,show termE (trapB (Int.toNat (min (IntKind.u32.wrap v) ((k : Int) - 1)))).Term 0 = 2 from rfl]; decide)
 refine (congrArg outF h3).trans ?_
 rw [e]
 show (⟨2,((Int.toNat (min (IntKind.u32.wrap v) ((k : Int) - 1)) : Nat) : Int),[],[],2⟩ : D.Outcome) = _
 rw [Int.toNat_of_nonneg (by omega)]
structure SB where
 K : Int
 A : List Int
 U : Value
 I : Int
instance : Inhabited SB := ⟨⟨0,[],.slice none 0 0,0⟩⟩
def rSB : Rp SB := rM (rP (rL rPhi) (rP (rL rIns) (rP (rI .i64) (rP (rL (rI .i64)) (rP rV (rI .i32)))))) (fun m => ([],[],m.K,m.A,m.U,m.I))
def blS (m : SB) (t : List Int) : D.Block := ⟨[],[],⟨m.K,m.A,t,m.I⟩⟩
section
variable {Γ : List Dt} {L M : List Res} {F : PH} {H : Heap} {m : SB} {f : Nat → Value} {u : Value}
theorem sb_of {a b c d e : Value} {K I : Int} {A : List Int} (h : Nd Γ L (da rBlock (.agg #[a,b,c,d,.slice none 0 0,e]) ⟨[],[],⟨K,A,[],I⟩⟩)) : Nd Γ L (da rSB (.agg #[a,b,c,d,.slice none 0 0,e]) ⟨K,A,.slice none 0 0,I⟩) := fun F H x y z => by
 obtain ⟨l,e1,hl,hk⟩ := h F H x y z
 injection e1 with e1
 have e2 : l = [a,b,c,d,.slice none 0 0,e] := by have := congrArg Array.toList e1; simpa using this.symm
 subst e2
 exact ⟨_,rfl,rfl,⟨hk.1,hk.2.1,hk.2.2.1,hk.2.2.2.1,⟨rfl,rfl⟩,hk.2.2.2.2.2⟩⟩
theorem sb_to {t : List Int} (h : rSB.ok F m f) (ht : (rL (rI .i64)).rv F m.U t) : rBlock.ok F (blS m t) f :=
 ⟨h.1,h.2.1,h.2.2.1,h.2.2.2.1,(rL (rI .i64)).ext (fun i hi => by rw [show i = 0 from Nat.lt_one_iff.1 hi]; exact h.2.2.2.2.1.1.symm) ht,h.2.2.2.2.2⟩
theorem sb_ld {v : Value} (hu : m.U = v) (h : rSB.ok F m f) : f 4 = v := (show f 4 = m.U from h.2.2.2.2.1.1).trans hu
theorem sb_put (h1 : u.oneCell' = true) : Go.JE.PO Γ L rSB m 4 [u] { m with U := u } := fun F H a b c f hf =>
 ⟨(rL rPhi).ext (fun i hi => by rw [show i = 0 from Nat.lt_one_iff.1 hi]; rfl) hf.1,(rL rIns).ext (fun i hi => by rw [show i = 0 from Nat.lt_one_iff.1 hi]; rfl) hf.2.1,⟨hf.2.2.1.1,hf.2.2.1.2⟩,(rL (rI .i64)).ext (fun i hi => by rw [show i = 0 from Nat.lt_one_iff.1 hi]; rfl) hf.2.2.2.1,⟨rfl,h1⟩,⟨hf.2.2.2.2.2.1,hf.2.2.2.2.2.2⟩⟩
theorem gl_to {T : TypeId} {B : Nat} {v : Value} {ls : List SB} {bs : List D.Block} (h : Gl rSB T F H B v ls) (hb : bs.length = ls.length) (ht : ∀ i,i < ls.length → ∃ t,ix bs i = blS (ix ls i) t ∧ (rL (rI .i64)).rv F (ix ls i).U t) : Gl rBlock T F H B v bs := by
 obtain ⟨xs,h1,h2,h3⟩ := h
 refine ⟨xs,by rw [hb]; exact h1,h2,fun i hi => ?_⟩
 obtain ⟨t,e,h4⟩ := ht i (by omega)
 rw [ix_eq hi] at e
 rw [e]
 have h5 := h3 i (by omega)
 rw [← ix_eq (show i < ls.length by omega)] at h5
 exact sb_to h5 h4
theorem cre {P : Program} {n : Fs} {w0 : World} {Q : Exit → Act → World → Prop} {X : Cx} {e : Env} {c : Code} {T : TypeId} {v : Value} {ls : List SB} {bs : List D.Block} (hk : Tk L (gl X.n rSB T v ls) M) (hb : bs.length = ls.length) (h : ∀ F H,InH F H → AllD F Γ → Ok F H L → ∀ i,i < ls.length → ∃ t,ix bs i = blS (ix ls i) t ∧ (rL (rI .i64)).rv F (ix ls i).U t)
   (k : CH P n w0 Q X Γ (gl X.n rBlock T v bs :: M) e c) : CH P n w0 Q X Γ L e c := fun F H hp => k F H (hp_re hp (fun o => by
     obtain ⟨⟨a,b⟩,x,y⟩ := hk.ok o
     exact ⟨⟨gl_to a hb (h F H hp.hin hp.hd o),b⟩,x,y⟩) (fun k' h' => hk.own h'))
end
def trS : Nat → List SB
 | 0 => []
 | k + 1 => trS k ++ [⟨5,[],.slice none 0 0,k⟩]
def swS (k : Nat) (v : Value) : List SB := ⟨3,[0],v,0⟩ :: trS k
theorem trS_len : ∀ k,(trS k).length = k
 | 0 => rfl
 | k + 1 => by rw [trS,List.length_append,trS_len k]; rfl
theorem trS_ix : ∀ {k i : Nat},i < k → ix (trS k) i = ⟨5,[],.slice none 0 0,i⟩
 | 0,_,h => absurd h (Nat.not_lt_zero _)
 | k + 1,i,h => by
   rw [trS]
   rcases Nat.lt_or_ge i k with h1 | h1
   · rw [ix_app (by rw [trS_len]; exact h1)]; exact trS_ix h1
   · have e : i = (trS k).length := by rw [trS_len]; omega
     subst e
     rw [ix_eq (by simp)]; simp [trS_len]
theorem swS_len {k : Nat} {v : Value} : (swS k v).length = k + 1 := by unfold swS; rw [List.length_cons,trS_len]
theorem swS_step {k : Nat} {v u : Value} (h : k ≤ 64) : List.set (swS k v) 0 { ix (swS k v) 0 with U := u } ++ [⟨5,[],.slice none 0 0,IntKind.i32.wrap (k : Int)⟩] = swS (k + 1) u := by
 rw [show IntKind.i32.wrap (k : Int) = k by rw [IntKind.wrap_i32]; omega]; rfl
theorem swTo_step {k : Nat} : swTo k ++ [(k : Int) + 1] = swTo (k + 1) := by unfold swTo; rw [List.range_succ,List.map_append]; rfl
theorem sw_ev {Γ : List Dt} {L : List Res} {k : Nat} {vT : Value} {sl : List SB} {tl : List Int} (hs : sl = swS k vT) (ht : tl = swTo k) (h : Nd Γ L (dv (rL (rI .i64)) vT tl)) : ∀ F H,InH F H → AllD F Γ → Ok F H L → ∀ i,i < sl.length → ∃ t,ix (swB k) i = blS (ix sl i) t ∧ (rL (rI .i64)).rv F (ix sl i).U t := fun F H a b c i hi => by
 subst hs; subst ht
 rw [swS_len] at hi
 cases i with
 | zero => exact ⟨swTo k,rfl,h F H a b c⟩
 | succ i =>
   have e : ix (swS k vT) (i + 1) = ⟨5,[],.slice none 0 0,i⟩ := by unfold swS; rw [ix_cons]; exact trS_ix (by omega)
   rw [e,swB_ix (by omega)]
   exact ⟨[],rfl,wN F H a b c⟩
theorem sw_no {k : Nat} {m v want : Int} {o : D.Outcome} (hk : 2 ≤ k ∧ k ≤ 65) (hm : (k : Int) = m + 1) (hv : IntKind.i32.wrap v = v) (h : o = ⟨2,min (IntKind.u32.wrap v) ((k : Int) - 1),[],[],2⟩) (hw : want = if 0 ≤ v ∧ v < m then v else m) (hc : (¬ o.End = 2 ∨ ¬ o.Val = want) ∨ ¬ o.Steps = 2) : False := by
 subst h
 rcases hc with (h1 | h1) | h1
 · exact h1 rfl
 · apply h1
   show min (IntKind.u32.wrap v) ((k : Int) - 1) = want
   rw [IntKind.wrap_i32] at hv
   rw [hw,IntKind.wrap_u32]; split <;> omega
 · exact h1 rfl
abbrev U5 := @Try.underlying5
theorem E10 : Ent Try.prog 10 := ⟨_,Try.func10,by kernel_rfl,by kernel_rfl⟩
attribute [local irreducible] runF
end Go.Proofs.Ytmfkkodnghambaa
namespace Go.Proofs.Ytmfkkodnghambaa
open Go.JE
attribute [local irreducible] runF
end Go.Proofs.Ytmfkkodnghambaa
namespace Go.Proofs.Ytmfkkodnghambaa
open Go.JE
theorem Z28 : Sz Try.prog 28 1 := by unfold Sz; kernel_rfl
attribute [local irreducible] runF
theorem sw_n {n : Int} (h : IntKind.u8.wrap n = n) : 1 ≤ 1 + Int.tmod n 64 ∧ 1 + Int.tmod n 64 ≤ 64 := by
 rw [IntKind.wrap_u8] at h
 rw [Int.tmod_eq_emod_of_nonneg (by omega)]; omega
set_option maxRecDepth 8000 in
set_option maxHeartbeats 400000 in
theorem switch_ct4 (n : Int) (v : Int) (ww0 : IntKind.u8.wrap n = n) (ww1 : IntKind.i32.wrap v = v) : Tv Try.prog 7 #[.int .u8 n,.int .i32 v] [] [] (.bool true) := by
 refine jenter (args := [.int .u8 n,.int .i32 v]) Try.func7 rfl rfl rfl fun w0 X => ?_
 have hn := sw_n ww0
 refine jq (jr (ja Z (jn (jx (jq (jr (jcv E10 Z Z shown4_ct dn kn (ja Z (jn (jx (jq ?_)))))))))))
 refine jr (jm Z (js (jco U5 U3 Z (up_u8_i64 ww0)) (js (jrem Z Z (by decide)) (js (jadd Z Z (by omega)) ?_))))
 generalize hmm : 1 + (Int.tmod n 64) = mm at hn ⊢
 have hmw : IntKind.i32.wrap mm = mm := by rw [IntKind.wrap_i32]; omega
 refine ja Z (jn (jx (jq (jr (jlit (r := (rI .i64)) (l := [0]) U32 I3 (by decide) Z Z Z (lV Z Z (wI (wl 0)) ln) fun g18 => js (jbu (v := .agg #[.int .i64 3,(.slice (some ⟨g18,0,none⟩) 1 1),.slice none 0 0,.int .i32 0]) Z (fun _ => by kernel_rfl)) (js (jbu (v := .agg #[.slice none 0 0,.slice none 0 0,.int .i64 3,(.slice (some ⟨g18,0,none⟩) 1 1),.slice none 0 0,.int .i32 0]) Z (fun _ => by kernel_rfl)) (jfz k0 (by (try simp) <;> omega) (jlit (r := rSB) (l := [⟨3,[0],.slice none 0 0,0⟩]) U28 I52 (by decide) Z Z Z (lA (sb_of (rBlock.M (m := ⟨[],[],⟨3,[0],[],0⟩⟩) (c := (.slice none 0 0,.slice none 0 0,(.slice (some ⟨g18,0,none⟩) 1 1),.slice none 0 0)) wN wN d0 wN (wl 3) (wl 0))) ln) fun g21 => jnl (r := (rI .i64)) (E := 3) (js (jbu (v := .agg #[.int .i64 1,(.slice (some ⟨g21,0,none⟩) 1 1)]) Z (fun _ => by kernel_rfl)) ?_)))))))))
 refine jalc J30 Z fun g7 => jsta k0 Z30 Z Z Z ⟨Z,Z,trivial⟩ (saf Z) (jn (jx (jq (jq (jr (ja Z (jn (jx (jb ?_)))))))))
 refine jlp (u5 fun (k : Nat) (sl : List SB) (tl : List Int) (vB : Value) (vT : Value) => ⟨(k : Int) ≤ mm + 1 ∧ sl = swS k vT ∧ tl = swTo k,[],[bx g7 30 [.int .i64 1,vB],gl X.n (rI .i64) 3 vT tl,gl X.n rSB 52 vB sl],[(1,.int .i32 v),(4,.bool false),(5,.bool true),(6,.int .i64 mm),(7,.pointer (some ⟨g7,0,none⟩)),(8,.int .i64 (↑k))],(Int.toNat mm + 1) - k⟩) (0,[⟨3,[0],.slice none 0 0,0⟩],[],(.slice (some ⟨g21,0,none⟩) 1 1),.slice none 0 0) ⟨by dsimp only; omega,rfl,rfl⟩ dn (kd (kc k0 kn)) ⟨Z,Z,Z,Z,Z,eqI (by omega),trivial⟩ ?_
 rintro ⟨k,sl,tl,vB,vT⟩; dsimp only [u5]; rintro ⟨hk,hsl,htl⟩
 refine cgo k2 fun w2 => cgo k1 fun w3 => ?_
 have hU : (ix sl 0).U = vT := by rw [hsl]; rfl
 have hsll : sl.length = k + 1 := by rw [hsl,swS_len]
 have htll : tl.length = k := by rw [htl,swTo_len]
 refine jq (jq (jr (jm Z (jm Z (js (jleq Z Z) (jn (jx ?_)))))))
 refine jif Z (fun hc1 => ?_) (fun hc1 => ?_)
 refine jsk (jx (jq (jb (jq (jany false (.a 0 (.a 1 (.a 2 (.a 3 (.a 8 (.a 9 (.w 4 10 (.a 5 (.a 6 (.w 7 10 (.o 10 (.o 11 (.o 12 (.a 13 (.a 14 (.o 15 .e)))))) (.o 7 (.o 11 (.o 12 (.a 13 (.a 14 (.o 15 .e))))))))) (.o 4 (.a 5 (.a 6 (.o 7 (.o 11 (.o 12 (.a 13 (.a 14 (.o 15 .e)))))))))))))))) Mixed (by kernel_rfl) (kc k0 kn) fun F4 => jy Z (jf F30_1 Z) (jy Z (jl k0 O28 Z Z) (jy Z (jf F30_1 Z) (jy Z (jl k0 O28 Z Z) (jy Z (jmv Z) (jy Z (jadd Z Z (by omega)) ?_))))))))))
 refine jyw Z Z ?_ ?_
 refine js (jig (i := 0) U28 Z52 k2 Z Z Z (by omega)) (jyn d0 (kc k0 kn) (jy Z (jf F52_2 Z) (jy Z (jf F37_2 Z) ?_)))
 refine jyw Z Z ?_ ?_
 refine js (jgp (i := 0) (off := 4) k2 (by omega) O32 Z (by omega) (fun _ f h => sb_ld hU h)) (jyn d0 (kc k0 kn) (jyo Z (jlit (r := (rI .i64)) (l := [↑k + 1]) U32 I3 (by decide) Z Z Z (lV Z Z (wI (wp (IntWalk.i64_in _ (by omega)))) ln) fun g38 => jyn d0 (kc k1 kn) (jyo Z (jfz k0 (by (try simp) <;> omega) (japl U32 I3 (by decide) Z k1 Z Z d0 (by (try simp) <;> omega) fun v39 w10 => jyn d1 (kc k1 kn) (jyo Z (js (jig (i := 0) U28 Z52 k2 Z Z Z (by omega)) (jyn d0 (kc k1 kn) ?_)))))))))
 refine jy Z (jf F52_2 Z) (jy Z (jf F37_2 Z) (jyo Z (jsp (i := 0) (off := 4) (a := { ix sl 0 with U := v39 }) k2 (by omega) Z32 Z (by omega) Z w10.one (sb_put w10.one) (jyn d0 (kc k2 kn) (jyd (jx (jr (js (jf F30_1 Z) (js (jl k2 O28 Z Z) (jm Z (js (jco U3 U21 Z Z) ?_)))))))))))
 refine js (jbu (v := .agg #[.int .i64 5,.slice none 0 0,.slice none 0 0,.int .i32 (IntKind.i32.wrap ↑k)]) Z (fun _ => by kernel_rfl)) (js (jbu (v := .agg #[.slice none 0 0,.slice none 0 0,.int .i64 5,.slice none 0 0,.slice none 0 0,.int .i32 (IntKind.i32.wrap ↑k)]) Z (fun _ => by kernel_rfl)) (jap U28 I52 (by decide) Z k0 Z (sb_of (rBlock.M (m := ⟨[],[],⟨5,[],[],IntKind.i32.wrap ↑k⟩⟩) (c := (.slice none 0 0,.slice none 0 0,.slice none 0 0,.slice none 0 0)) wN wN wN wN (wl 5) (wp (JE.wrap_wrap _ _)))) (by simp; omega) (fun _ => Z) fun v50 _ w13 => js (jf F30_1 Z) (jst k2 Z28 Z Z w13.one s1 (jn (jbn (jx (jr (jm Z (js (jadd Z Z (by omega)) (ja Z ?_))))))))))
 refine jn ?_
 exact jag (k + 1,(List.set sl 0 { ix sl 0 with U := v39 }) ++ [⟨5,[],.slice none 0 0,IntKind.i32.wrap ((k : Nat) : Int)⟩],tl ++ ([((k : Nat) : Int) + 1]),v50,v39) ⟨by dsimp only; omega,by dsimp only; rw [hsl]; exact swS_step (by omega),by dsimp only; rw [htl]; exact swTo_step⟩ dn (kc k0 (kc k1 (kc k0 kn))) ⟨Z,Z,Z,Z,Z,eqI (by omega),trivial⟩
 refine jlit (r := (rI .i64)) (l := [↑k + 1]) U32 I3 (by decide) Z Z Z (lV Z Z (wI (wp (IntWalk.i64_in _ (by omega)))) ln) fun g38 => jyn d0 (kc k1 kn) (jyo Z (js (jgp (i := 0) (off := 4) k3 (by omega) O32 Z (by omega) (fun _ f h => sb_ld hU h)) (jyn d0 (kc k1 kn) (jyo Z (jfz k0 (by (try simp) <;> omega) (japl U32 I3 (by decide) Z k1 Z Z d0 (by (try simp) <;> omega) fun v39 w10 => jyn d1 (kc k1 kn) (jyo Z (js (jig (i := 0) U28 Z52 k2 Z Z Z (by omega)) (jyn d0 (kc k1 kn) ?_)))))))))
 refine jy Z (jf F52_2 Z) (jy Z (jf F37_2 Z) (jyo Z (jsp (i := 0) (off := 4) (a := { ix sl 0 with U := v39 }) k2 (by omega) Z32 Z (by omega) Z w10.one (sb_put w10.one) (jyn d0 (kc k2 kn) (jyd (jx (jr (js (jf F30_1 Z) (js (jl k2 O28 Z Z) (jm Z (js (jco U3 U21 Z Z) ?_)))))))))))
 refine js (jbu (v := .agg #[.int .i64 5,.slice none 0 0,.slice none 0 0,.int .i32 (IntKind.i32.wrap ↑k)]) Z (fun _ => by kernel_rfl)) (js (jbu (v := .agg #[.slice none 0 0,.slice none 0 0,.int .i64 5,.slice none 0 0,.slice none 0 0,.int .i32 (IntKind.i32.wrap ↑k)]) Z (fun _ => by kernel_rfl)) (jap U28 I52 (by decide) Z k0 Z (sb_of (rBlock.M (m := ⟨[],[],⟨5,[],[],IntKind.i32.wrap ↑k⟩⟩) (c := (.slice none 0 0,.slice none 0 0,.slice none 0 0,.slice none 0 0)) wN wN wN wN (wl 5) (wp (JE.wrap_wrap _ _)))) (by simp; omega) (fun _ => Z) fun v50 _ w13 => js (jf F30_1 Z) (jst k2 Z28 Z Z w13.one s1 (jn (jbn (jx (jr (jm Z (js (jadd Z Z (by omega)) (ja Z ?_))))))))))
 refine jn ?_
 exact jag (k + 1,(List.set sl 0 { ix sl 0 with U := v39 }) ++ [⟨5,[],.slice none 0 0,IntKind.i32.wrap ((k : Nat) : Int)⟩],tl ++ ([((k : Nat) : Int) + 1]),v50,v39) ⟨by dsimp only; omega,by dsimp only; rw [hsl]; exact swS_step (by omega),by dsimp only; rw [htl]; exact swTo_step⟩ dn (kc k0 (kc k1 (kc k0 kn))) ⟨Z,Z,Z,Z,Z,eqI (by omega),trivial⟩
 refine jlit (r := (rI .i64)) (l := [↑k + 1]) U32 I3 (by decide) Z Z Z (lV Z Z (wI (wp (IntWalk.i64_in _ (by omega)))) ln) fun g38 => jyn d0 (kc k1 kn) (jyo Z (js (jig (i := 0) U28 Z52 k3 Z Z Z (by omega)) (jyn d0 (kc k1 kn) (jy Z (jf F52_2 Z) (jy Z (jf F37_2 Z) (jyo Z (js (jgp (i := 0) (off := 4) k3 (by omega) O32 Z (by omega) (fun _ f h => sb_ld hU h)) (jyn d0 (kc k1 kn) (jyo Z (jfz k0 (by (try simp) <;> omega) ?_))))))))))
 refine japl U32 I3 (by decide) Z k1 Z Z d0 (by (try simp) <;> omega) fun v39 w10 => jyn d1 (kc k1 kn) (jyo Z (js (jig (i := 0) U28 Z52 k2 Z Z Z (by omega)) (jyn d0 (kc k1 kn) (jy Z (jf F52_2 Z) (jy Z (jf F37_2 Z) (jyo Z (jsp (i := 0) (off := 4) (a := { ix sl 0 with U := v39 }) k2 (by omega) Z32 Z (by omega) Z w10.one (sb_put w10.one) (jyn d0 (kc k2 kn) (jyd (jx ?_))))))))))
 refine jr (js (jf F30_1 Z) (js (jl k2 O28 Z Z) (jm Z (js (jco U3 U21 Z Z) (js (jbu (v := .agg #[.int .i64 5,.slice none 0 0,.slice none 0 0,.int .i32 (IntKind.i32.wrap ↑k)]) Z (fun _ => by kernel_rfl)) (js (jbu (v := .agg #[.slice none 0 0,.slice none 0 0,.int .i64 5,.slice none 0 0,.slice none 0 0,.int .i32 (IntKind.i32.wrap ↑k)]) Z (fun _ => by kernel_rfl)) (jap U28 I52 (by decide) Z k0 Z (sb_of (rBlock.M (m := ⟨[],[],⟨5,[],[],IntKind.i32.wrap ↑k⟩⟩) (c := (.slice none 0 0,.slice none 0 0,.slice none 0 0,.slice none 0 0)) wN wN wN wN (wl 5) (wp (JE.wrap_wrap _ _)))) (by simp; omega) (fun _ => Z) fun v50 _ w13 => js (jf F30_1 Z) (jst k2 Z28 Z Z w13.one s1 (jn (jbn ?_))))))))))
 refine jx (jr (jm Z (js (jadd Z Z (by omega)) (ja Z (jn ?_)))))
 exact jag (k + 1,(List.set sl 0 { ix sl 0 with U := v39 }) ++ [⟨5,[],.slice none 0 0,IntKind.i32.wrap ((k : Nat) : Int)⟩],tl ++ ([((k : Nat) : Int) + 1]),v50,v39) ⟨by dsimp only; omega,by dsimp only; rw [hsl]; exact swS_step (by omega),by dsimp only; rw [htl]; exact swTo_step⟩ dn (kc k0 (kc k1 (kc k0 kn))) ⟨Z,Z,Z,Z,Z,eqI (by omega),trivial⟩
 refine jex (jtx (jtx (jbh (jx (jq (cfz k1 (by omega) (cre (bs := swB k) k1 (by rw [hsl,swS_len,swB_len]) (sw_ev hsl htl d0) (cfz k0 (by first | omega | (rw [swB_len]; omega)) (jr (jm Z (jm Z ?_)))))))))))
 refine js (jco U21 U62 Z Z) (js (jrem Z Z (by decide)) (js (jco U62 U21 Z Z) (jm Z (js (jco U3 U21 Z Z) (jm Z (js (jsub Z Z (by omega)) (js (jco U3 U21 Z Z) (jlit (r := (rI .i32)) (l := [v,IntKind.i32.wrap (Int.tmod (IntKind.u32.wrap v) 70),IntKind.i32.wrap mm,IntKind.i32.wrap (mm - 1),(-1)]) U23 I21 (by decide) Z Z Z (lV Z Z (wI (wp ww1)) (lV Z Z (wI (wp (JE.wrap_wrap _ _))) (lV Z Z (wI (wp (JE.wrap_wrap _ _))) (lV Z Z (wI (wp (JE.wrap_wrap _ _))) (lV Z Z (wI (wl (-1))) ln))))) fun g62 => ?_))))))))
 have hwl : (List.length ([v,IntKind.i32.wrap (Int.tmod (IntKind.u32.wrap v) 70),IntKind.i32.wrap mm,IntKind.i32.wrap (mm - 1),(-1)])) = 5 := rfl
 have hwv : ∀ x ∈ [v,IntKind.i32.wrap (Int.tmod (IntKind.u32.wrap v) 70),IntKind.i32.wrap mm,IntKind.i32.wrap (mm - 1),(-1)],IntKind.i32.wrap x = x := by intro x hx; simp at hx; rcases hx with rfl | rfl | rfl | rfl | rfl <;> first | exact ww1 | exact JE.wrap_wrap _ _ | decide
 generalize hwds : [v,IntKind.i32.wrap (Int.tmod (IntKind.u32.wrap v) 70),IntKind.i32.wrap mm,IntKind.i32.wrap (mm - 1),(-1)] = wds at hwl hwv ⊢
 refine ja Z (jn (jx (jq (jq (jr (ja Z (jn (jx (jb ?_)))))))))
 refine jlp (fun (j : Nat) => ⟨j ≤ 5,[dv (rL rBlock) vB (swB k)],[gl X.n (rI .i32) 21 (.slice (some ⟨g62,0,none⟩) 5 5) wds,bx g7 30 [.int .i64 1,vB]],[(5,.bool true),(6,.int .i64 mm),(7,.pointer (some ⟨g7,0,none⟩)),(9,(.slice (some ⟨g62,0,none⟩) 5 5)),(10,.int .i64 (↑j))],5 - j⟩) 0 (by omega) (dc d0 dn) (kd kn) ⟨Z,Z,Z,Z,eqI (by omega),trivial⟩ ?_
 rintro j; dsimp only; rintro hj
 refine jq (jq (jr (jm Z (jm Z (js (jlg U23 k0 Z) (js (jlss Z Z) (jn (jx ?_))))))))
 refine jif Z (fun hc2 => ?_) (fun hc2 => ?_)
 refine jsk (jx (jq (jb (jq (jany false (.a 0 (.a 1 (.a 2 (.a 3 (.a 4 (.w 5 8 (.a 6 (.w 7 8 (.o 8 (.o 9 .e)) (.o 7 (.o 9 .e)))) (.o 5 (.a 6 (.o 7 (.o 9 .e)))))))))) Mixed (by kernel_rfl) (kd kn) fun F16 => jy Z (jla k1 A30 Z30 Z Z Z) (jy Z (jmv Z) (jy Z (jmv Z) (jy Z (jig U23 Z21 k0 Z Z Z (by omega)) (jy Z (jgI k0 (by omega) O21 Z) ?_)))))))))
 refine jyw Z Z ?_ ?_
 refine jlit (r := (rI .i32)) (l := [ix wds j]) U23 I21 (by decide) Z Z Z (lV Z Z (wI (wgl k0 (by omega))) ln) fun g74 => jyn d0 (kc k1 (kc k1 kn)) (jy Z (jbu (v := .agg #[(.slice (some ⟨g74,0,none⟩) 1 1),.slice none 0 0,.slice none 0 0,.int .i64 2]) Z (fun _ => by kernel_rfl)) ?_)
 refine jyw Z Z ?_ ?_
 refine jfz k0 (by (try simp) <;> omega) (jcs2 E11 Z Z (rRun_ct (i := ⟨[ix wds j],[],[],2⟩) (f := ⟨1,swB k⟩) (sw_good (k := k) (by omega)) (show (2 : Int) ≤ 1000000 by decide)) (dc (rFunc.M (m := ⟨1,swB k⟩) (c := vB) d3 (wl 1)) (dc (rInput.M (m := ⟨[ix wds j],[],[],2⟩) (c := ((.slice (some ⟨g74,0,none⟩) 1 1),.slice none 0 0,.slice none 0 0)) d0 wN wN (wl 2)) dn)) kn fun c76a c76b => ?_)
 generalize hoa : runF (⟨1,swB k⟩) (⟨[ix wds j],[],[],2⟩) = oa at ⊢
 have hO := hoa.symm.trans (sw_run (k := k) (by omega))
 refine jyn d2 (kd kn) (jyo Z (jalc J26 Z fun g11 => jyn d0 (kc k1 (kc k1 kn)) (jyo Z (jdq (rOutcome.c_Mem d2) fun q23 w23 => jdq (rOutcome.c_Calls d2) fun q24 w24 => jsta k0 Z26 Z Z Z ⟨Z,Z,w23.one,w24.one,Z,trivial⟩ (saf Z) (jyn d0 (kc k1 (kc k1 kn)) (jyd (jx (jq ?_))))))))
 refine jr (jm Z (js (jco U3 U21 Z Z) (ja Z (jn (jx (jq (jq (jr (jm Z (jm Z (js (jig U23 Z21 k1 Z Z Z (by omega)) ?_)))))))))))
 refine js (jgI k1 (by omega) O21 Z) (js (jgeq Z Z) (jm Z (jg Z Z (.t _) (fun hg => jmv Z) (jg Z Z (.t _) (fun hg => jmv Z) (jg Z Z (.t _) (fun hg => jig U23 Z21 k1 (evg Z hg) (evg Z hg) Z (by first | omega | (simp at hg; omega) | (simp only [List.length_set]; omega) | (simp; done))) (jg Z Z (.t _) (fun hg => jgI k1 (by first | omega | (simp at hg; omega) | (simp only [List.length_set]; omega) | (simp; done)) O21 (evg Z hg)) (jg Z Z (.t _) (fun hg => jmv Z) (jg Z Z (.t _) (fun hg => jco U3 U21 (evg Z hg) Z) (jg Z Z (.t _) (fun hg => jlss (evg Z hg) (evg Z hg)) (js (jand Z Z) (jn ?_)))))))))))
 refine jx ?_
 refine jif Z (fun hc3 => ?_) (fun hc3 => ?_)
 refine jr (jm Z (jm Z (js (jig U23 Z21 k1 Z Z Z (by omega)) (js (jgI k1 (by omega) O21 Z) (ja Z (jn (jx (jq (jr (js (jf F26_0 Z) (js (jl k0 O3 Z Z) ?_)))))))))))
 refine js (jneq Z Z) (jm Z (jg Z Z (.f _) (fun hg => jf F26_1 Z) (jg Z Z (.f _) (fun hg => jl k0 O21 (evg Z hg) Z) (jg Z Z (.f _) (fun hg => jmv Z) (jg Z Z (.f _) (fun hg => jneq (evg Z hg) (evg Z hg)) (js (jor Z Z) (jm Z (jg Z Z (.f _) (fun hg => jf F26_4 Z) (jg Z Z (.f _) (fun hg => jl k0 O3 (evg Z hg) Z) (jg Z Z (.f _) (fun hg => jneq (evg Z hg) Z) (js (jor Z Z) ?_)))))))))))
 refine jn (jx ?_)
 refine jif Z (fun hc4 => ?_) (fun hc4 => ?_)
 exact (sw_no (m := mm) (by omega) (by omega) (hwv _ (ix_mem (by omega))) hO (by rw [if_pos ⟨hc3.1,by omega⟩]) hc4).elim
 refine jsk (jbn (jx (jr (jm Z (js (jadd Z Z (by omega)) (ja Z (jn ?_)))))))
 exact jag (j + 1) (by omega) (dc d6 dn) (kc k1 (kc k1 kn)) ⟨Z,Z,Z,Z,eqI (by omega),trivial⟩
 refine jsk (jx (jq (jr (js (jf F26_0 Z) (js (jl k0 O3 Z Z) (js (jneq Z Z) (jm Z (jg Z Z (.f _) (fun hg => jf F26_1 Z) (jg Z Z (.f _) (fun hg => jl k0 O21 (evg Z hg) Z) (jg Z Z (.f _) (fun hg => jmv Z) (jg Z Z (.f _) (fun hg => jneq (evg Z hg) (evg Z hg)) ?_)))))))))))
 refine js (jor Z Z) (jm Z (jg Z Z (.f _) (fun hg => jf F26_4 Z) (jg Z Z (.f _) (fun hg => jl k0 O3 (evg Z hg) Z) (jg Z Z (.f _) (fun hg => jneq (evg Z hg) Z) (js (jor Z Z) (jn (jx ?_)))))))
 refine jif Z (fun hc5 => ?_) (fun hc5 => ?_)
 exact (sw_no (m := mm) (by omega) (by omega) (hwv _ (ix_mem (by omega))) hO (by rw [if_neg (by omega)]; exact hmw) hc5).elim
 refine jsk (jbn (jx (jr (jm Z (js (jadd Z Z (by omega)) (ja Z (jn ?_)))))))
 exact jag (j + 1) (by omega) (dc d6 dn) (kc k1 (kc k1 kn)) ⟨Z,Z,Z,Z,eqI (by omega),trivial⟩
 refine jalc J26 Z fun g11 => jyn d0 (kc k2 (kc k2 kn)) (jyo Z (jfz k1 (by (try simp) <;> omega) (jcs2 E11 Z Z (rRun_ct (i := ⟨[ix wds j],[],[],2⟩) (f := ⟨1,swB k⟩) (sw_good (k := k) (by omega)) (show (2 : Int) ≤ 1000000 by decide)) (dc (rFunc.M (m := ⟨1,swB k⟩) (c := vB) d4 (wl 1)) (dc (rInput.M (m := ⟨[ix wds j],[],[],2⟩) (c := ((.slice (some ⟨g74,0,none⟩) 1 1),.slice none 0 0,.slice none 0 0)) d0 wN wN (wl 2)) dn)) kn fun c76a c76b => ?_)))
 generalize hoa : runF (⟨1,swB k⟩) (⟨[ix wds j],[],[],2⟩) = oa at ⊢
 have hO := hoa.symm.trans (sw_run (k := k) (by omega))
 refine jyn d2 (kc k1 (kc k1 kn)) (jyo Z (jdq (rOutcome.c_Mem d1) fun q23 w23 => jdq (rOutcome.c_Calls d1) fun q24 w24 => jsta k0 Z26 Z Z Z ⟨Z,Z,w23.one,w24.one,Z,trivial⟩ (saf Z) (jyn d0 (kc k1 (kc k1 kn)) (jyd (jx (jq (jr (jm Z (js (jco U3 U21 Z Z) ?_)))))))))
 refine ja Z (jn (jx (jq (jq (jr (jm Z (jm Z (js (jig U23 Z21 k1 Z Z Z (by omega)) (js (jgI k1 (by omega) O21 Z) (js (jgeq Z Z) (jm Z ?_)))))))))))
 refine jg Z Z (.t _) (fun hg => jmv Z) (jg Z Z (.t _) (fun hg => jmv Z) (jg Z Z (.t _) (fun hg => jig U23 Z21 k1 (evg Z hg) (evg Z hg) Z (by first | omega | (simp at hg; omega) | (simp only [List.length_set]; omega) | (simp; done))) (jg Z Z (.t _) (fun hg => jgI k1 (by first | omega | (simp at hg; omega) | (simp only [List.length_set]; omega) | (simp; done)) O21 (evg Z hg)) (jg Z Z (.t _) (fun hg => jmv Z) (jg Z Z (.t _) (fun hg => jco U3 U21 (evg Z hg) Z) (jg Z Z (.t _) (fun hg => jlss (evg Z hg) (evg Z hg)) (js (jand Z Z) (jn (jx ?_)))))))))
 refine jif Z (fun hc3 => ?_) (fun hc3 => ?_)
 refine jr (jm Z (jm Z (js (jig U23 Z21 k1 Z Z Z (by omega)) (js (jgI k1 (by omega) O21 Z) (ja Z (jn (jx (jq (jr (js (jf F26_0 Z) (js (jl k0 O3 Z Z) ?_)))))))))))
 refine js (jneq Z Z) (jm Z (jg Z Z (.f _) (fun hg => jf F26_1 Z) (jg Z Z (.f _) (fun hg => jl k0 O21 (evg Z hg) Z) (jg Z Z (.f _) (fun hg => jmv Z) (jg Z Z (.f _) (fun hg => jneq (evg Z hg) (evg Z hg)) (js (jor Z Z) (jm Z (jg Z Z (.f _) (fun hg => jf F26_4 Z) (jg Z Z (.f _) (fun hg => jl k0 O3 (evg Z hg) Z) (jg Z Z (.f _) (fun hg => jneq (evg Z hg) Z) (js (jor Z Z) ?_)))))))))))
 refine jn (jx ?_)
 refine jif Z (fun hc4 => ?_) (fun hc4 => ?_)
 exact (sw_no (m := mm) (by omega) (by omega) (hwv _ (ix_mem (by omega))) hO (by rw [if_pos ⟨hc3.1,by omega⟩]) hc4).elim
 refine jsk (jbn (jx (jr (jm Z (js (jadd Z Z (by omega)) (ja Z (jn ?_)))))))
 exact jag (j + 1) (by omega) (dc d6 dn) (kc k1 (kc k1 kn)) ⟨Z,Z,Z,Z,eqI (by omega),trivial⟩
 refine jsk (jx (jq (jr (js (jf F26_0 Z) (js (jl k0 O3 Z Z) (js (jneq Z Z) (jm Z (jg Z Z (.f _) (fun hg => jf F26_1 Z) (jg Z Z (.f _) (fun hg => jl k0 O21 (evg Z hg) Z) (jg Z Z (.f _) (fun hg => jmv Z) (jg Z Z (.f _) (fun hg => jneq (evg Z hg) (evg Z hg)) ?_)))))))))))
 refine js (jor Z Z) (jm Z (jg Z Z (.f _) (fun hg => jf F26_4 Z) (jg Z Z (.f _) (fun hg => jl k0 O3 (evg Z hg) Z) (jg Z Z (.f _) (fun hg => jneq (evg Z hg) Z) (js (jor Z Z) (jn (jx ?_)))))))
 refine jif Z (fun hc5 => ?_) (fun hc5 => ?_)
 exact (sw_no (m := mm) (by omega) (by omega) (hwv _ (ix_mem (by omega))) hO (by rw [if_neg (by omega)]; exact hmw) hc5).elim
 refine jsk (jbn (jx (jr (jm Z (js (jadd Z Z (by omega)) (ja Z (jn ?_)))))))
 exact jag (j + 1) (by omega) (dc d6 dn) (kc k1 (kc k1 kn)) ⟨Z,Z,Z,Z,eqI (by omega),trivial⟩
 refine jalc J26 Z fun g11 => jyn d0 (kc k1 (kc k1 kn)) (jyo Z (jlit (r := (rI .i32)) (l := [ix wds j]) U23 I21 (by decide) Z Z Z (lV Z Z (wI (wgl k1 (by omega))) ln) fun g74 => jyn d0 (kc k2 (kc k2 kn)) (jy Z (jbu (v := .agg #[(.slice (some ⟨g74,0,none⟩) 1 1),.slice none 0 0,.slice none 0 0,.int .i64 2]) Z (fun _ => by kernel_rfl)) (jyo Z (jfz k0 (by (try simp) <;> omega) (jcs2 E11 Z Z (rRun_ct (i := ⟨[ix wds j],[],[],2⟩) (f := ⟨1,swB k⟩) (sw_good (k := k) (by omega)) (show (2 : Int) ≤ 1000000 by decide)) (dc (rFunc.M (m := ⟨1,swB k⟩) (c := vB) d4 (wl 1)) (dc (rInput.M (m := ⟨[ix wds j],[],[],2⟩) (c := ((.slice (some ⟨g74,0,none⟩) 1 1),.slice none 0 0,.slice none 0 0)) d0 wN wN (wl 2)) dn)) kn fun c76a c76b => ?_))))))
 generalize hoa : runF (⟨1,swB k⟩) (⟨[ix wds j],[],[],2⟩) = oa at ⊢
 have hO := hoa.symm.trans (sw_run (k := k) (by omega))
 refine jyn d2 (kc k1 (kc k1 kn)) (jyo Z (jdq (rOutcome.c_Mem d1) fun q23 w23 => jdq (rOutcome.c_Calls d1) fun q24 w24 => jsta k0 Z26 Z Z Z ⟨Z,Z,w23.one,w24.one,Z,trivial⟩ (saf Z) (jyn d0 (kc k1 (kc k1 kn)) (jyd (jx (jq (jr (jm Z (js (jco U3 U21 Z Z) ?_)))))))))
 refine ja Z (jn (jx (jq (jq (jr (jm Z (jm Z (js (jig U23 Z21 k1 Z Z Z (by omega)) (js (jgI k1 (by omega) O21 Z) (js (jgeq Z Z) (jm Z ?_)))))))))))
 refine jg Z Z (.t _) (fun hg => jmv Z) (jg Z Z (.t _) (fun hg => jmv Z) (jg Z Z (.t _) (fun hg => jig U23 Z21 k1 (evg Z hg) (evg Z hg) Z (by first | omega | (simp at hg; omega) | (simp only [List.length_set]; omega) | (simp; done))) (jg Z Z (.t _) (fun hg => jgI k1 (by first | omega | (simp at hg; omega) | (simp only [List.length_set]; omega) | (simp; done)) O21 (evg Z hg)) (jg Z Z (.t _) (fun hg => jmv Z) (jg Z Z (.t _) (fun hg => jco U3 U21 (evg Z hg) Z) (jg Z Z (.t _) (fun hg => jlss (evg Z hg) (evg Z hg)) (js (jand Z Z) (jn (jx ?_)))))))))
 refine jif Z (fun hc3 => ?_) (fun hc3 => ?_)
 refine jr (jm Z (jm Z (js (jig U23 Z21 k1 Z Z Z (by omega)) (js (jgI k1 (by omega) O21 Z) (ja Z (jn (jx (jq (jr (js (jf F26_0 Z) (js (jl k0 O3 Z Z) ?_)))))))))))
 refine js (jneq Z Z) (jm Z (jg Z Z (.f _) (fun hg => jf F26_1 Z) (jg Z Z (.f _) (fun hg => jl k0 O21 (evg Z hg) Z) (jg Z Z (.f _) (fun hg => jmv Z) (jg Z Z (.f _) (fun hg => jneq (evg Z hg) (evg Z hg)) (js (jor Z Z) (jm Z (jg Z Z (.f _) (fun hg => jf F26_4 Z) (jg Z Z (.f _) (fun hg => jl k0 O3 (evg Z hg) Z) (jg Z Z (.f _) (fun hg => jneq (evg Z hg) Z) (js (jor Z Z) ?_)))))))))))
 refine jn (jx ?_)
 refine jif Z (fun hc4 => ?_) (fun hc4 => ?_)
 exact (sw_no (m := mm) (by omega) (by omega) (hwv _ (ix_mem (by omega))) hO (by rw [if_pos ⟨hc3.1,by omega⟩]) hc4).elim
 refine jsk (jbn (jx (jr (jm Z (js (jadd Z Z (by omega)) (ja Z (jn ?_)))))))
 exact jag (j + 1) (by omega) (dc d6 dn) (kc k1 (kc k1 kn)) ⟨Z,Z,Z,Z,eqI (by omega),trivial⟩
 refine jsk (jx (jq (jr (js (jf F26_0 Z) (js (jl k0 O3 Z Z) (js (jneq Z Z) (jm Z (jg Z Z (.f _) (fun hg => jf F26_1 Z) (jg Z Z (.f _) (fun hg => jl k0 O21 (evg Z hg) Z) (jg Z Z (.f _) (fun hg => jmv Z) (jg Z Z (.f _) (fun hg => jneq (evg Z hg) (evg Z hg)) ?_)))))))))))
 refine js (jor Z Z) (jm Z (jg Z Z (.f _) (fun hg => jf F26_4 Z) (jg Z Z (.f _) (fun hg => jl k0 O3 (evg Z hg) Z) (jg Z Z (.f _) (fun hg => jneq (evg Z hg) Z) (js (jor Z Z) (jn (jx ?_)))))))
 refine jif Z (fun hc5 => ?_) (fun hc5 => ?_)
 exact (sw_no (m := mm) (by omega) (by omega) (hwv _ (ix_mem (by omega))) hO (by rw [if_neg (by omega)]; exact hmw) hc5).elim
 refine jsk (jbn (jx (jr (jm Z (js (jadd Z Z (by omega)) (ja Z (jn ?_)))))))
 exact jag (j + 1) (by omega) (dc d6 dn) (kc k1 (kc k1 kn)) ⟨Z,Z,Z,Z,eqI (by omega),trivial⟩
 refine jex (jtx (jtx (jbh (jx (jq (jr (jm Z (ja Z (jn (jx (jrt ?_)))))))))))
 exact jrB Z Z (by first | done | rfl)
end Go.Proofs.Ytmfkkodnghambaa
