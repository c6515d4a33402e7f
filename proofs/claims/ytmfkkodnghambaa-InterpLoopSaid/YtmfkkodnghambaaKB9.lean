/- Lemmas that the claim is made of. Conditions: each lemma names its own. -/
import Derived.Test.YtmfkkodnghambaaKB8
set_option linter.unusedSectionVars false
set_option linter.unusedSimpArgs false
set_option linter.unusedVariables false
namespace Go.Proofs.Ytmfkkodnghambaa
open Go.JE
def GrS (b s : RSt) : Prop := s.st ≤ b.st ∧ b.me.length = s.me.length ∧ ∃ t,b.cl = s.cl ++ t
theorem GrS.rf {s : RSt} : GrS s s := ⟨Int.le_refl _,rfl,[],(List.append_nil _).symm⟩
theorem GrS.tr {a b c : RSt} (h : GrS a b) (h2 : GrS b c) : GrS a c := by
 obtain ⟨h3,h4,t,h5⟩ := h
 obtain ⟨h6,h7,u,h8⟩ := h2
 exact ⟨by omega,by omega,u ++ t,by rw [h5,h8,List.append_assoc]⟩
theorem stS_le (en st N : Int) : st ≤ stS en st N := by unfold stS; split <;> omega
theorem GrS.step {N : Int} {s : RSt} : GrS (stepF N s) s := ⟨stS_le _ _ _,rfl,[],(List.append_nil _).symm⟩
theorem GrS.term {t : D.Term} {s : RSt} : GrS (termF t s) s := ⟨Int.le_refl _,rfl,[],(List.append_nil _).symm⟩
theorem GrS.phis {fr : Int} {l : List D.Phi} {s : RSt} : GrS (phisF fr l s) s := ⟨Int.le_refl _,rfl,[],(List.append_nil _).symm⟩
theorem GrS.ins {i : D.Ins} {s : RSt} : GrS (insF i s) s := by
 refine ⟨Int.le_refl _,inzM_len _ _ _,?_⟩
 show ∃ t,inzC i s.V s.cl = s.cl ++ t
 unfold inzC; split
 · exact ⟨_,rfl⟩
 · exact ⟨[],(List.append_nil _).symm⟩
theorem lis_gr {N : Int} : ∀ (l : List D.Ins) (s : RSt),GrS (lisF N l s).1 s
 | [],s => .rf
 | i :: l,s => by
   rw [lisF]; split
   · exact (lis_gr l _).tr (GrS.ins.tr .step)
   · exact .step
theorem blk_gr {bs : List D.Block} {N : Int} : ∀ (k : Nat) (a fr : Int) (s : RSt),GrS (blocksF bs N k a fr s) s
 | 0,_,_,s => .rf
 | k + 1,a,fr,s => by
   have h1 : GrS (lisF N (ix bs (Int.toNat a)).Ins (phisF fr (ix bs (Int.toNat a)).Phis s)).1 s := (lis_gr _ _).tr .phis
   rw [blocksF]
   split
   · split
     · split
       · exact (blk_gr k _ _ _).tr (GrS.term.tr (GrS.step.tr h1))
       · exact GrS.term.tr (GrS.step.tr h1)
     · exact GrS.step.tr h1
   · exact h1
theorem blk_gr1 {bs : List D.Block} {N a fr : Int} {k : Nat} {s : RSt} : GrS (blocksF bs N (k + 1) a fr s) (lisF N (ix bs (Int.toNat a)).Ins (phisF fr (ix bs (Int.toNat a)).Phis s)).1 := by
 rw [blocksF]
 split
 · split
   · split
     · exact (blk_gr k _ _ _).tr (GrS.term.tr .step)
     · exact GrS.term.tr .step
   · exact .step
 · exact .rf
theorem ok_t {N : Int} {s : RSt} (h : s.en = 0) (h2 : s.st < N) : stepOk N s = true ∧ stepF N s = { s with st := s.st + 1 } := by
 have e1 : stE s.en s.st N = 0 := by unfold stE; rw [if_neg (by omega)]; exact h
 refine ⟨by unfold stepOk stB; rw [e1]; rfl,?_⟩
 have e2 : stV s.en s.va s.st N = s.va := by unfold stV; rw [if_neg (by omega)]
 have e3 : stS s.en s.st N = s.st + 1 := by unfold stS; rw [if_pos e1]
 unfold stepF; rw [e1,e2,e3,← h]
theorem ok_f {N : Int} {s : RSt} (h : s.en = 0) (h2 : N ≤ s.st) : stepOk N s = false ∧ stepF N s = { s with en := 3,va := 0 } := by
 have e1 : stE s.en s.st N = 3 := by unfold stE; rw [if_pos ⟨h,h2⟩]
 refine ⟨by unfold stepOk stB; rw [e1]; rfl,?_⟩
 have e2 : stV s.en s.va s.st N = 0 := by unfold stV; rw [if_pos ⟨h,h2⟩]
 have e3 : stS s.en s.st N = s.st := by unfold stS; rw [if_neg (by omega)]
 unfold stepF; rw [e1,e2,e3]
theorem ok_n {N : Int} {s : RSt} (h : s.en ≠ 0) : stepOk N s = false ∧ stepF N s = s := by
 have e1 : stE s.en s.st N = s.en := by unfold stE; rw [if_neg (fun h2 => h h2.1)]
 refine ⟨by unfold stepOk stB; rw [e1]; exact decide_eq_false h,?_⟩
 have e2 : stV s.en s.va s.st N = s.va := by unfold stV; rw [if_neg (fun h2 => h h2.1)]
 have e3 : stS s.en s.st N = s.st := by unfold stS; rw [if_neg (by omega)]
 unfold stepF; rw [e1,e2,e3]
def PreS (N : Int) (a b : RSt) : Prop := (a.en ≠ 3 ∧ a.st ≤ N ∧ b = a) ∨ (a.en = 3 ∧ a.va = 0 ∧ a.st = N ∧ GrS b a)
theorem insF_en {i : D.Ins} {s : RSt} (h : s.en = 0) : (insF i s).en ≠ 3 := by
 show inzE i s.V s.me s.en ≠ 3
 unfold inzE; split <;> omega
theorem lis_pre {N N' : Int} (hN : N ≤ N') : ∀ (l : List D.Ins) (s : RSt),s.en ≠ 3 → s.st ≤ N → (lisF N l s).1.en ≠ 3 ∧ (lisF N l s).1.st ≤ N ∧ lisF N' l s = lisF N l s ∨ (lisF N l s).2 = false ∧ (lisF N l s).1.en = 3 ∧ (lisF N l s).1.va = 0 ∧ (lisF N l s).1.st = N ∧ GrS (lisF N' l s).1 (lisF N l s).1
 | [],s,h,h2 => .inl ⟨h,h2,rfl⟩
 | i :: l,s,h,h2 => by
   by_cases h3 : s.en = 0
   · by_cases h4 : s.st < N
     · have a := ok_t h3 h4
       have b := ok_t (N := N') h3 (by omega)
       rw [lisF,lisF,if_pos a.1,if_pos b.1,a.2,b.2]
       exact lis_pre hN l _ (insF_en (s := { s with st := s.st + 1 }) h3) (by show s.st + 1 ≤ N; omega)
     · have a := ok_f (N := N) h3 (by omega)
       have e : lisF N (i :: l) s = ({ s with en := 3,va := 0 },false) := by rw [lisF,if_neg (by rw [a.1]; decide),a.2]
       rw [e]
       exact .inr ⟨rfl,rfl,rfl,by show s.st = N; omega,lis_gr _ s⟩
   · have a := ok_n (N := N) h3
     have b := ok_n (N := N') h3
     rw [lisF,lisF,if_neg (by rw [a.1]; decide),if_neg (by rw [b.1]; decide),a.2,b.2]
     exact .inl ⟨h,h2,rfl⟩
theorem term_en {t : D.Term} {s : RSt} (h : s.en ≠ 3) : (termF t s).en ≠ 3 := by
 show termE t s.en ≠ 3
 unfold termE; split
 · exact h
 · split <;> decide
theorem blk_pre {bs : List D.Block} {N N' : Int} (hN : N ≤ N') : ∀ (k k' : Nat) (a fr : Int) (s : RSt),N - s.st < k → N' - s.st < k' → s.st ≤ N → s.en ≠ 3 → PreS N (blocksF bs N k a fr s) (blocksF bs N' k' a fr s)
 | 0,_,_,_,_,h,_,h2,_ => by omega
 | k + 1,0,_,_,_,_,h,h2,_ => by omega
 | k + 1,k' + 1,a,fr,s,h,h',hs,he => by
   have hg : GrS (blocksF bs N' (k' + 1) a fr s) _ := blk_gr1
   rcases lis_pre hN (ix bs (Int.toNat a)).Ins (phisF fr (ix bs (Int.toNat a)).Phis s) he hs with ⟨h1,h2,h3⟩ | ⟨h1,h2,h3,h4,h5⟩
   · have hst := (lis_gr (N := N) (ix bs (Int.toNat a)).Ins (phisF fr (ix bs (Int.toNat a)).Phis s)).1
     rw [h3] at hg
     rw [blocksF,blocksF,h3]
     rw [blocksF,h3] at hg
     generalize lisF N (ix bs (Int.toNat a)).Ins (phisF fr (ix bs (Int.toNat a)).Phis s) = r at *
     have hst : s.st ≤ r.1.st := hst
     cases h6 : r.2 with
     | false => exact .inl ⟨by simpa using h1,by simpa using h2,by simp⟩
     | true =>
       rw [h6,if_pos rfl] at hg
       rw [if_pos rfl,if_pos rfl]
       by_cases h7 : r.1.en = 0
       · by_cases h8 : r.1.st < N
         · have u := ok_t h7 h8
           have v := ok_t (N := N') h7 (by omega)
           rw [if_pos u.1,if_pos v.1,u.2,v.2]
           split
           · exact blk_pre hN k k' _ _ _ (by show N - (r.1.st + 1) < k; omega) (by show N' - (r.1.st + 1) < k'; omega) (by show r.1.st + 1 ≤ N; omega) (by omega)
           · exact .inl ⟨term_en h1,by show r.1.st + 1 ≤ N; omega,rfl⟩
         · have u := ok_f (N := N) h7 (by omega)
           rw [if_neg (show ¬ stepOk N r.1 = true by rw [u.1]; decide),u.2]
           exact .inr ⟨rfl,rfl,by show r.1.st = N; omega,hg⟩
       · have u := ok_n (N := N) h7
         have v := ok_n (N := N') h7
         rw [if_neg (show ¬ stepOk N r.1 = true by rw [u.1]; decide),if_neg (show ¬ stepOk N' r.1 = true by rw [v.1]; decide),u.2,v.2]
         exact .inl ⟨h1,h2,rfl⟩
   · have e : blocksF bs N (k + 1) a fr s = (lisF N (ix bs (Int.toNat a)).Ins (phisF fr (ix bs (Int.toNat a)).Phis s)).1 := by rw [blocksF,if_neg (by rw [h1]; decide)]
     rw [e]
     exact .inr ⟨h2,h3,h4,hg.tr h5⟩
section
variable {p : Int} {l : List D.Ins} {t : D.Term} {i : D.Input} {s' : RSt}
end
theorem lis_one {N : Int} {i : D.Ins} {l : List D.Ins} {s : RSt} (h : s.en = 0) (h2 : s.st < N) : lisF N (i :: l) s = lisF N l (insF i { s with st := s.st + 1 }) := by rw [lisF,if_pos (ok_t h h2).1,(ok_t h h2).2]
def posB (bs : List D.Block) (v : Int) (wb : Nat) (wp : Int) : Bool := decide (wb < bs.length) && ((decide (wp < 0) && decide (Int.toNat (-1 - wp) < (ix bs wb).Phis.length) && decide (v = (ix (ix bs wb).Phis (Int.toNat (-1 - wp))).Dst)) || (decide (0 ≤ wp) && decide (Int.toNat wp < (ix bs wb).Ins.length) && decide (v ∈ makes3 (ix (ix bs wb).Ins (Int.toNat wp)))))
def cloB (bs : List D.Block) (w : Nat) (S : List Nat) : Bool := decide (0 ∈ S) && S.all (fun x => (ix bs x).Term.To.all (fun t => decide (t.toNat ∈ S) || decide (t.toNat = w)))
def usB (f : D.Func) (pos : Int → Nat × Int) (S : Nat → List Nat) (v : Int) (b : Nat) (at' : Int) : Bool :=
 (decide (0 ≤ v) && decide (v < f.Params)) || (posB f.Blocks v (pos v).1 (pos v).2 && ((decide ((pos v).1 = b) && (decide ((pos v).2 < at') || decide ((pos v).2 < 0))) || (decide ((pos v).1 ≠ b) && (decide ((pos v).1 = 0) || (cloB f.Blocks (pos v).1 (S (pos v).1) && decide (b ∉ S (pos v).1))))))
theorem posB_at {bs : List D.Block} {v : Int} {wb : Nat} {wp : Int} (h : posB bs v wb wp = true) : PosAt bs v wb wp := by
 unfold posB at h
 simp only [Bool.and_eq_true,Bool.or_eq_true,decide_eq_true_eq] at h
 obtain ⟨h1,⟨⟨h2,h3⟩,h4⟩ | ⟨⟨h2,h3⟩,h4⟩⟩ := h
 · exact ⟨h1,.inl ⟨_,h3,h4,by omega⟩⟩
 · exact ⟨h1,.inr ⟨_,h3,h4,by omega⟩⟩
theorem gr_of {f : D.Func} (hto : ∀ b,b < f.Blocks.length → ∀ t ∈ (ix f.Blocks b).Term.To,1 ≤ t ∧ t < f.Blocks.length) {q t : Nat} (hq : q < f.Blocks.length) : prG (graphF f) q t ↔ (t : Int) ∈ (ix f.Blocks q).Term.To := by
 have h1 : ix (cleanM (graphF f)) q = keptM (ix (graphF f) q) (graphF f).length := by unfold cleanM; rw [ix_mapG (by rw [graph_len]; omega)]
 have h2 : ix (graphF f) q = keptM (ix f.Blocks q).Term.To f.Blocks.length := by unfold graphF; rw [ix_mapG (l := f.Blocks) (by omega)]
 unfold prG
 rw [h1,h2,graph_len,kept_kept,kept_mem]
 refine ⟨fun h => h.1,fun h3 => ⟨h3,?_⟩⟩
 have := hto q hq _ h3
 omega
theorem rb0 {pr : Nat → Nat → Prop} {b : Nat} (h : RB pr 0 b) : False := by
 induction h with
 | zero h => exact h rfl
 | step _ _ _ ih => exact ih
theorem clo_no {f : D.Func} (hto : ∀ b,b < f.Blocks.length → ∀ t ∈ (ix f.Blocks b).Term.To,1 ≤ t ∧ t < f.Blocks.length) {w b : Nat} {S : List Nat} (h : cloB f.Blocks w S = true) (hb : b ∉ S) : ¬ RB (prG (graphF f)) w b := fun hr => by
 unfold cloB at h
 simp only [Bool.and_eq_true,decide_eq_true_eq,List.all_eq_true,Bool.or_eq_true] at h
 have key : b ∈ S := by
   clear hb
   induction hr with
   | zero _ => exact h.1
   | @step x t h1 h2 h3 ih =>
     have hx : x < f.Blocks.length := by have := (prG_rng h2).1; rwa [graph_len] at this
     have h4 := (gr_of hto hx).1 h2
     rcases h.2 x ih _ h4 with h5 | h5
     · rwa [Int.toNat_natCast] at h5
     · rw [Int.toNat_natCast] at h5; exact absurd h5 h3
 exact hb key
theorem usB_us {f : D.Func} (hto : ∀ b,b < f.Blocks.length → ∀ t ∈ (ix f.Blocks b).Term.To,1 ≤ t ∧ t < f.Blocks.length) {pos : Int → Nat × Int} {S : Nat → List Nat} {v : Int} {b : Nat} {at' : Int} (h : usB f pos S v b at' = true) : US f v b at' := by
 unfold usB at h
 simp only [Bool.and_eq_true,Bool.or_eq_true,decide_eq_true_eq] at h
 rcases h with h | ⟨h1,h2⟩
 · exact .inl h
 · refine .inr ⟨_,_,posB_at h1,?_⟩
   rcases h2 with ⟨h2,h3⟩ | ⟨h2,h3⟩
   · exact .inl ⟨h2,h3⟩
   · refine .inr ⟨h2,?_⟩
     rcases h3 with h3 | ⟨h3,h4⟩
     · rw [h3]; exact rb0
     · exact clo_no hto h3 h4
theorem once_of {bs : List D.Block} (h : ∀ j,j < bs.length → (mkB (ix bs j)).Nodup) (h2 : ∀ i,i < bs.length → ∀ j,j < bs.length → i = j ∨ ∀ r ∈ mkB (ix bs i),¬ r ∈ mkB (ix bs j)) : Once bs := by
 have e : ∀ j,bs.length ≤ j → mkB (ix bs j) = [] := fun j hj => by rw [ix_out hj]; rfl
 refine ⟨fun j => ?_,fun i j hij r hr hr2 => ?_⟩
 · rcases Nat.lt_or_ge j bs.length with h3 | h3
   · exact h j h3
   · rw [e j h3]; exact List.nodup_nil
 · rcases Nat.lt_or_ge i bs.length with h3 | h3
   · rcases Nat.lt_or_ge j bs.length with h4 | h4
     · exact (h2 i h3 j h4).resolve_left hij r hr hr2
     · rw [e j h4] at hr2; cases hr2
   · rw [e i h3] at hr; cases hr
theorem pk_of {f : D.Func} (hto : ∀ b,b < f.Blocks.length → ∀ t ∈ (ix f.Blocks b).Term.To,1 ≤ t ∧ t < f.Blocks.length) {v : Nat} : ∀ k,k ≤ f.Blocks.length → predK (cleanM (graphF f)) k v = pT (f.Blocks.map (fun x => x.Term.To)) k v
 | 0,_ => rfl
 | k + 1,hk => by
   rw [predK,pT,pk_of hto k (by omega),ix_mapG (l := f.Blocks) (by omega)]
   congr 1
   have h1 : (v : Int) ∈ ix (cleanM (graphF f)) k ↔ (v : Int) ∈ (ix f.Blocks k).Term.To := gr_of hto (by omega)
   by_cases h2 : (v : Int) ∈ (ix f.Blocks k).Term.To
   · rw [if_pos (h1.2 h2),if_pos (List.any_eq_true.2 ⟨_,h2,by simp⟩)]
   · rw [if_neg (fun h3 => h2 (h1.1 h3)),if_neg (fun h3 => by
       obtain ⟨y,h4,h5⟩ := List.any_eq_true.1 h3
       simp at h5; subst h5; exact h2 h4)]
theorem rch_of {f : D.Func} (hl : 0 < f.Blocks.length) (hto : ∀ b,b < f.Blocks.length → ∀ t ∈ (ix f.Blocks b).Term.To,1 ≤ t ∧ t < f.Blocks.length) (hpb : ∀ c,c < f.Blocks.length → 1 ≤ c → ∃ p,p < c ∧ (c : Int) ∈ (ix f.Blocks p).Term.To) : ∀ (k b : Nat),b < k → b < f.Blocks.length → RB (prG (graphF f)) f.Blocks.length b
 | 0,b,hb,_ => absurd hb (Nat.not_lt_zero _)
 | k + 1,b,hk,hb => by
   by_cases e : b = 0
   · rw [e]; exact .zero (by omega)
   · obtain ⟨p,h1,h2⟩ := hpb b hb (by omega)
     exact .step (rch_of hl hto hpb k p (by omega) (by omega)) ((gr_of hto (by omega)).2 h2) (by omega)
def tmB (t : D.Term) : Bool := match shM t.Kind with
 | some s => decide (s.1 ≤ (t.Args.length : Int) ∧ (t.Args.length : Int) ≤ s.2.1) && decide (s.2.2.1 ≤ (t.To.length : Int) ∧ (t.To.length : Int) ≤ s.2.2.2)
 | none => false
theorem tmB_tm {t : D.Term} (h : tmB t = true) : ∃ s,shM t.Kind = some s ∧ (s.1 ≤ (t.Args.length : Int) ∧ (t.Args.length : Int) ≤ s.2.1) ∧ (s.2.2.1 ≤ (t.To.length : Int) ∧ (t.To.length : Int) ≤ s.2.2.2) := by
 unfold tmB at h
 split at h
 · rename_i s hs
   simp only [Bool.and_eq_true,decide_eq_true_eq] at h
   exact ⟨s,hs,h.1,h.2⟩
 · cases h
theorem good_gen {f : D.Func} (hp : 0 ≤ f.Params ∧ f.Params ≤ 4) (hl : 0 < f.Blocks.length ∧ f.Blocks.length ≤ 512) (hc : f.Blocks.length + cntF3 f.Blocks ≤ 4096) (ho : Once f.Blocks) (hr : ∀ b,b < f.Blocks.length → ∀ r ∈ mkB (ix f.Blocks b),f.Params ≤ r ∧ r ≤ 8191)
   (hop : ∀ b,b < f.Blocks.length → ∀ i ∈ (ix f.Blocks b).Ins,(1 ≤ i.Op ∧ i.Op ≤ 18) ∧ (operM i.Op).1 ≤ (i.Args.length : Int) ∧ (i.Args.length : Int) ≤ (operM i.Op).2) (htm : ∀ b,b < f.Blocks.length → tmB (ix f.Blocks b).Term = true)
   (hto : ∀ b,b < f.Blocks.length → ∀ t ∈ (ix f.Blocks b).Term.To,1 ≤ t ∧ t < f.Blocks.length) (hpb' : ∀ c,c < f.Blocks.length → 1 ≤ c → (List.range c).any (fun p => decide ((c : Int) ∈ (ix f.Blocks p).Term.To)) = true)
   (hfr : ∀ b,b < f.Blocks.length → ∀ p ∈ (ix f.Blocks b).Phis,0 < b ∧ p.In.map (fun x => x.From) = pT (f.Blocks.map (fun x => x.Term.To)) f.Blocks.length b) (pos : Int → Nat × Int) (S : Nat → List Nat)
   (hui : ∀ b,b < f.Blocks.length → ∀ i,i < (ix f.Blocks b).Ins.length → ∀ v ∈ (ix (ix f.Blocks b).Ins i).Args,usB f pos S v b i = true) (hut : ∀ b,b < f.Blocks.length → ∀ v ∈ (ix f.Blocks b).Term.Args,usB f pos S v b (ix f.Blocks b).Ins.length = true)
   (hup : ∀ b,b < f.Blocks.length → ∀ p ∈ (ix f.Blocks b).Phis,∀ x ∈ p.In,usB f pos S x.Val x.From.toNat (ix f.Blocks x.From.toNat).Ins.length = true) : GoodF f :=
 have hpb : ∀ c,c < f.Blocks.length → 1 ≤ c → ∃ p,p < c ∧ (c : Int) ∈ (ix f.Blocks p).Term.To := fun c h1 h2 => by
   obtain ⟨p,h3,h4⟩ := List.any_eq_true.1 (hpb' c h1 h2)
   exact ⟨p,List.mem_range.1 h3,of_decide_eq_true h4⟩
 ⟨hp,hl,hc,ho,hr,hop,fun b hb => tmB_tm (htm b hb),hto,fun b hb => ⟨_,rch_of hl.1 hto hpb (b + 1) b (Nat.lt_succ_self _) hb⟩,
   fun b hb p hp' => ⟨(hfr b hb p hp').1,by rw [(hfr b hb p hp').2,predsG_at,graph_len,pk_of hto _ (Nat.le_refl _)]⟩,
   fun b hb i hi v hv => usB_us hto (hui b hb i hi v hv),fun b hb v hv => usB_us hto (hut b hb v hv),fun b hb p hp' x hx => usB_us hto (hup b hb p hp' x hx)⟩
def loopF : D.Func := ⟨2,[⟨[],[⟨1,2,0,[],0⟩],⟨1,[],[1],0⟩⟩,⟨[⟨3,[⟨0,2⟩,⟨2,7⟩]⟩,⟨4,[⟨0,1⟩,⟨2,8⟩]⟩],[⟨12,5,0,[3,0],0⟩],⟨2,[5],[2,3],0⟩⟩,⟨[],[⟨1,6,0,[],1⟩,⟨2,7,0,[3,6],0⟩,⟨2,8,0,[4,3],0⟩],⟨1,[],[1],0⟩⟩,⟨[],[],ret3 4⟩]⟩
theorem loop_good : GoodF loopF := good_gen (by decide) (by decide) (by decide) (once_of (by decide) (by decide)) (by decide) (by decide) (by decide) (by decide)
 (by decide) (by decide)
 (fun v => if v = 2 then (0,0) else if v = 3 then (1,-1) else if v = 4 then (1,-2) else if v = 5 then (1,0) else if v = 6 then (2,0) else if v = 7 then (2,1) else (2,2)) (fun _ => [0]) (by decide) (by decide) (by decide)
theorem blk_one {bs : List D.Block} {N a fr : Int} {k : Nat} {s s' : RSt} (h : lisF N (ix bs (Int.toNat a)).Ins (phisF fr (ix bs (Int.toNat a)).Phis s) = (s',true)) (h2 : s'.en = 0) (h3 : s'.st < N) (h4 : termE (ix bs (Int.toNat a)).Term 0 = 0) :
   blocksF bs N (k + 1) a fr s = blocksF bs N k (termB (ix bs (Int.toNat a)).Term s'.V) a (termF (ix bs (Int.toNat a)).Term { s' with st := s'.st + 1 }) := by
 have h5 := ok_t h2 h3
 rw [blk_go h h5.1 (by rw [h5.2]; show termE _ s'.en = 0; rw [h2]; exact h4) (Nat.succ_pos k),h5.2]; rfl
theorem blk_last {bs : List D.Block} {N a fr : Int} {k : Nat} {s s' : RSt} (h : lisF N (ix bs (Int.toNat a)).Ins (phisF fr (ix bs (Int.toNat a)).Phis s) = (s',true)) (h2 : s'.en = 0) (h3 : s'.st < N) (h4 : ¬ termE (ix bs (Int.toNat a)).Term 0 = 0) :
   blocksF bs N (k + 1) a fr s = termF (ix bs (Int.toNat a)).Term { s' with st := s'.st + 1 } := by
 have h5 := ok_t h2 h3
 rw [blk_end h h5.1 (by rw [h5.2]; show ¬ termE _ s'.en = 0; rw [h2]; exact h4) (Nat.succ_pos k),h5.2]
section
variable {N k i acc st fr : Int} {fuel : Nat} {V : Int → Int}
theorem loop_phis (h0 : V 0 = k) (hfr : (fr = 0 ∧ V 2 = i ∧ V 1 = acc) ∨ (fr = 2 ∧ V 7 = i ∧ V 8 = acc)) : (phisV fr [⟨3,[⟨0,2⟩,⟨2,7⟩]⟩,⟨4,[⟨0,1⟩,⟨2,8⟩]⟩] V) 0 = k ∧ (phisV fr [⟨3,[⟨0,2⟩,⟨2,7⟩]⟩,⟨4,[⟨0,1⟩,⟨2,8⟩]⟩] V) 3 = i ∧ (phisV fr [⟨3,[⟨0,2⟩,⟨2,7⟩]⟩,⟨4,[⟨0,1⟩,⟨2,8⟩]⟩] V) 4 = acc := by
 rcases hfr with ⟨rfl,h1,h2⟩ | ⟨rfl,h1,h2⟩
 · exact ⟨h0,h1,h2⟩
 · exact ⟨h0,h1,h2⟩
theorem loop_head (h0 : V 0 = k) (hfr : (fr = 0 ∧ V 2 = i ∧ V 1 = acc) ∨ (fr = 2 ∧ V 7 = i ∧ V 8 = acc)) (hst : st + 2 ≤ N) : ∃ V2,V2 0 = k ∧ V2 3 = i ∧ V2 4 = acc ∧
   blocksF loopF.Blocks N (fuel + 1) 1 fr ⟨V,0,0,[],[],st,[]⟩ = blocksF loopF.Blocks N fuel (if bitM (decide (i < k)) = 0 then 3 else 2) 1 ⟨V2,0,0,[],[],st + 2,[]⟩ := by
 obtain ⟨h1,h2,h3⟩ := loop_phis h0 hfr
 have hl : lisF N (ix loopF.Blocks (Int.toNat 1)).Ins (phisF fr (ix loopF.Blocks (Int.toNat 1)).Phis ⟨V,0,0,[],[],st,[]⟩) = (⟨setV (phisV fr [⟨3,[⟨0,2⟩,⟨2,7⟩]⟩,⟨4,[⟨0,1⟩,⟨2,8⟩]⟩] V) 5 (bitM (decide (i < k))),0,0,[],[],st + 1,[]⟩,true) := by
   show lisF N [⟨12,5,0,[3,0],0⟩] ⟨phisV fr [⟨3,[⟨0,2⟩,⟨2,7⟩]⟩,⟨4,[⟨0,1⟩,⟨2,8⟩]⟩] V,0,0,[],[],st,[]⟩ = _
   generalize phisV fr [⟨3,[⟨0,2⟩,⟨2,7⟩]⟩,⟨4,[⟨0,1⟩,⟨2,8⟩]⟩] V = V1 at h1 h2 h3 ⊢
   rw [lis_one rfl (show st < N by omega),← h1,← h2]; rfl
 generalize phisV fr [⟨3,[⟨0,2⟩,⟨2,7⟩]⟩,⟨4,[⟨0,1⟩,⟨2,8⟩]⟩] V = V1 at h1 h2 h3 hl
 refine ⟨setV V1 5 (bitM (decide (i < k))),h1,h2,h3,?_⟩
 rw [blk_one hl rfl (show st + 1 < N by omega) rfl]
 rw [show st + 2 = st + 1 + 1 by omega]; rfl
theorem loop_turn (h0 : V 0 = k) (hfr : (fr = 0 ∧ V 2 = i ∧ V 1 = acc) ∨ (fr = 2 ∧ V 7 = i ∧ V 8 = acc)) (hi : i < k) (hst : st + 6 ≤ N) : ∃ V',V' 0 = k ∧ V' 7 = w32 (i + 1) ∧ V' 8 = w32 (acc + i) ∧
   blocksF loopF.Blocks N (fuel + 2) 1 fr ⟨V,0,0,[],[],st,[]⟩ = blocksF loopF.Blocks N fuel 1 2 ⟨V',0,0,[],[],st + 6,[]⟩ := by
 obtain ⟨V2,h1,h2,h3,h4⟩ := loop_head (fuel := fuel + 1) h0 hfr (show st + 2 ≤ N by omega)
 rw [h4,show bitM (decide (i < k)) = 1 by rw [decide_eq_true hi]; rfl,if_neg (by decide)]
 have hl : lisF N (ix loopF.Blocks (Int.toNat 2)).Ins (phisF 1 (ix loopF.Blocks (Int.toNat 2)).Phis ⟨V2,0,0,[],[],st + 2,[]⟩) = (⟨setV (setV (setV V2 6 1) 7 (w32 (i + 1))) 8 (w32 (acc + i)),0,0,[],[],st + 2 + 1 + 1 + 1,[]⟩,true) := by
   show lisF N [⟨1,6,0,[],1⟩,⟨2,7,0,[3,6],0⟩,⟨2,8,0,[4,3],0⟩] ⟨V2,0,0,[],[],st + 2,[]⟩ = _
   rw [lis_one rfl (show st + 2 < N by omega),lis_one rfl (show st + 2 + 1 < N by omega),lis_one rfl (show st + 2 + 1 + 1 < N by omega),← h2,← h3]; rfl
 refine ⟨setV (setV (setV V2 6 1) 7 (w32 (i + 1))) 8 (w32 (acc + i)),h1,rfl,rfl,?_⟩
 rw [blk_one hl rfl (show st + 2 + 1 + 1 + 1 < N by omega) rfl]
 rw [show st + 6 = st + 2 + 1 + 1 + 1 + 1 by omega]; rfl
theorem loop_out (h0 : V 0 = k) (hfr : (fr = 0 ∧ V 2 = i ∧ V 1 = acc) ∨ (fr = 2 ∧ V 7 = i ∧ V 8 = acc)) (hi : ¬ i < k) (hst : st + 3 ≤ N) : outF (blocksF loopF.Blocks N (fuel + 2) 1 fr ⟨V,0,0,[],[],st,[]⟩) = ⟨1,acc,[],[],st + 3⟩ := by
 obtain ⟨V2,h1,h2,h3,h4⟩ := loop_head (fuel := fuel + 1) h0 hfr (show st + 2 ≤ N by omega)
 rw [h4,show bitM (decide (i < k)) = 0 by rw [decide_eq_false hi]; rfl,if_pos rfl]
 have hl : lisF N (ix loopF.Blocks (Int.toNat 3)).Ins (phisF 1 (ix loopF.Blocks (Int.toNat 3)).Phis ⟨V2,0,0,[],[],st + 2,[]⟩) = (⟨V2,0,0,[],[],st + 2,[]⟩,true) := rfl
 rw [blk_last hl rfl (show st + 2 < N by omega) (by decide),← h3,show st + 3 = st + 2 + 1 by omega]; rfl
end
def accL (fm : Int) : Nat → Int
 | 0 => fm
 | n + 1 => w32 (accL fm n + n)
theorem loop_all {N k fm : Int} (hk : 0 ≤ k ∧ k ≤ 60) : ∀ (m n : Nat) {st fr : Int} {fuel : Nat} {V : Int → Int},(n : Int) + m = k → V 0 = k → ((fr = 0 ∧ V 2 = n ∧ V 1 = accL fm n) ∨ (fr = 2 ∧ V 7 = n ∧ V 8 = accL fm n)) → st + 6 * m + 3 ≤ N → 2 * m + 2 ≤ fuel → outF (blocksF loopF.Blocks N fuel 1 fr ⟨V,0,0,[],[],st,[]⟩) = ⟨1,accL fm (n + m),[],[],st + 6 * m + 3⟩
 | 0,n,st,fr,fuel,V,hn,h0,hfr,hst,hf => by
   obtain ⟨g,rfl⟩ : ∃ g,fuel = g + 2 := ⟨fuel - 2,by omega⟩
   rw [loop_out h0 hfr (by omega) (by omega)]
   simp
 | m + 1,n,st,fr,fuel,V,hn,h0,hfr,hst,hf => by
   obtain ⟨g,rfl⟩ : ∃ g,fuel = g + 2 := ⟨fuel - 2,by omega⟩
   obtain ⟨V',h1,h2,h3,h4⟩ := loop_turn (N := N) (st := st) (fuel := g) h0 hfr (by omega) (by omega)
   rw [h4,loop_all hk m (n + 1) (by omega) h1 (.inr ⟨rfl,by rw [h2,w32,IntKind.wrap_i32]; omega,h3⟩) (by omega) (by omega)]
   rw [show n + 1 + m = n + (m + 1) by omega,show st + 6 + 6 * (m : Int) + 3 = st + 6 * ((m + 1 : Nat) : Int) + 3 by omega]
theorem loop_run {k fm N : Int} (hk : 0 ≤ k ∧ k ≤ 60) (hN : 5 + 6 * k ≤ N) : runF loopF ⟨[k,fm],[],[],N⟩ = ⟨1,accL fm k.toNat,[],[],5 + 6 * k⟩ := by
 have hl : lisF N (ix loopF.Blocks (Int.toNat 0)).Ins (phisF (-1) (ix loopF.Blocks (Int.toNat 0)).Phis (startF loopF ⟨[k,fm],[],[],N⟩)) = (⟨setV (argsV [k,fm] 2) 2 0,0,0,[],[],1,[]⟩,true) := by
   show lisF N [⟨1,2,0,[],0⟩] ⟨argsV [k,fm] 2,0,0,[],[],0,[]⟩ = _
   rw [lis_one rfl (show (0 : Int) < N by omega)]; rfl
 show outF (blocksF loopF.Blocks N (Int.toNat N + 1) 0 (-1) (startF loopF ⟨[k,fm],[],[],N⟩)) = _
 rw [blk_one hl rfl (show (1 : Int) < N by omega) rfl]
 have := loop_all (N := N) (fm := fm) hk k.toNat 0 (st := 2) (fr := 0) (fuel := Int.toNat N) (V := setV (argsV [k,fm] 2) 2 0) (by omega) rfl (.inl ⟨rfl,rfl,rfl⟩) (by omega) (by omega)
 rw [Nat.zero_add] at this
 exact this.trans (by rw [show (2 : Int) + 6 * (k.toNat : Int) + 3 = 5 + 6 * k by omega])
theorem acc_sum {fm : Int} (hf : IntKind.i32.wrap fm = fm) : ∀ n : Nat,accL fm n = w32 (fm + ((n * (n - 1) / 2 : Nat) : Int))
 | 0 => by show fm = w32 (fm + 0); rw [Int.add_zero]; exact hf.symm
 | n + 1 => by
   rw [accL,acc_sum hf n]
   have e : (n + 1) * (n + 1 - 1) / 2 = n * (n - 1) / 2 + n := by
     rw [Nat.add_sub_cancel]
     cases n with
     | zero => rfl
     | succ m =>
       rw [Nat.add_sub_cancel,show (m + 1 + 1) * (m + 1) = (m + 1) * m + (m + 1) * 2 by rw [Nat.mul_comm,← Nat.mul_add],Nat.add_mul_div_right _ _ (by decide)]
   rw [e]
   exact w32_congr (by simp only [w32,IntKind.wrap_i32]; omega)
theorem run_few {f : D.Func} {i : D.Input} {N N' : Int} (h0 : 0 ≤ N) (hN : N ≤ N') : (runF f { i with Steps := N' } = runF f { i with Steps := N } ∧ (runF f { i with Steps := N }).End ≠ 3 ∧ (runF f { i with Steps := N }).Steps ≤ N) ∨ ((runF f { i with Steps := N }).End = 3 ∧ (runF f { i with Steps := N }).Steps = N ∧ (runF f { i with Steps := N }).Val = 0) := by
 unfold runF
 rcases blk_pre (bs := f.Blocks) hN (Int.toNat N + 1) (Int.toNat N' + 1) 0 (-1) (startF f i) (by show N - 0 < _; omega) (by show N' - 0 < _; omega) h0 (by show (0 : Int) ≠ 3; decide) with ⟨h1,h2,h3⟩ | ⟨h1,h2,h3,h4,h5,h6⟩
 · exact .inl ⟨congrArg outF h3,h1,h2⟩
 · exact .inr ⟨h1,h3,h2⟩
theorem loop_few {k fm N : Int} (hk : 0 ≤ k ∧ k ≤ 60) (h0 : 0 ≤ N) (hN : N < 5 + 6 * k) : (runF loopF ⟨[k,fm],[],[],N⟩).End = 3 ∧ (runF loopF ⟨[k,fm],[],[],N⟩).Steps = N ∧ (runF loopF ⟨[k,fm],[],[],N⟩).Val = 0 := by
 rcases run_few (f := loopF) (i := ⟨[k,fm],[],[],N⟩) h0 (show N ≤ 5 + 6 * k by omega) with ⟨h1,h2,h3⟩ | h
 · exfalso
   have h4 : runF loopF ⟨[k,fm],[],[],5 + 6 * k⟩ = runF loopF ⟨[k,fm],[],[],N⟩ := h1
   have h5 : (runF loopF ⟨[k,fm],[],[],N⟩).Steps ≤ N := h3
   rw [← h4,loop_run hk (Int.le_refl _)] at h5
   have h5 : 5 + 6 * k ≤ N := h5
   omega
 · exact h
abbrev U49 := @Try.underlying49
abbrev U5 := @Try.underlying5
theorem E10 : Ent Try.prog 10 := ⟨_,Try.func10,by kernel_rfl,by kernel_rfl⟩
theorem I54 : (Try.prog.info? 54).map (fun i => (i.zero,i.size,i.bytes)) = some (some (.agg #[.int .i64 0,.int .i64 0]),2,16) := by kernel_rfl
theorem I57 : (Try.prog.info? 57).map (fun i => (i.zero,i.size,i.bytes)) = some (some (.agg #[.int .i64 0,.slice none 0 0]),2,32) := by kernel_rfl
attribute [local irreducible] runF
theorem u8m {n m : Int} (h : IntKind.u8.wrap n = n) (hm : 0 < m ∧ m ≤ 100) : 0 ≤ IntKind.i32.wrap (Int.tmod n m) ∧ IntKind.i32.wrap (Int.tmod n m) < m := by
 rw [IntKind.wrap_u8] at h
 rw [Int.tmod_eq_emod_of_nonneg (by omega),IntKind.wrap_i32]
 have := Int.emod_nonneg n (show m ≠ 0 by omega)
 have := Int.emod_lt_of_pos n hm.1
 omega
theorem loop_val {k fm : Int} (hf : IntKind.i32.wrap fm = fm) (hk : 0 ≤ k ∧ k < 61) : accL fm k.toNat = IntKind.i32.wrap (fm + IntKind.i32.wrap ((IntKind.i32.wrap (k * IntKind.i32.wrap (k - 1))).tdiv 2)) := by
 have h : ∀ n : Nat,n < 61 → IntKind.i32.wrap ((IntKind.i32.wrap ((n : Int) * IntKind.i32.wrap ((n : Int) - 1))).tdiv 2) = ((n * (n - 1) / 2 : Nat) : Int) := by decide
 have h2 := h k.toNat (by omega)
 rw [show ((k.toNat : Nat) : Int) = k by omega] at h2
 rw [acc_sum hf,h2]
theorem loop_a {k fm s : Int} {o : D.Outcome} (hk : 0 ≤ k ∧ k < 61) (hs : 0 ≤ s) (h : runF loopF ⟨[k,fm],[],[],s⟩ = o) (hc : s < 5 + 6 * k) : true = (true && decide (o.End = 3) && decide (o.Steps = s) && decide (o.Val = 0)) := by
 obtain ⟨h1,h2,h3⟩ := loop_few (k := k) (fm := fm) (N := s) (by omega) hs hc
 rw [h] at h1 h2 h3
 simp [h1,h2,h3]
theorem loop_b {k fm s : Int} {o : D.Outcome} (hf : IntKind.i32.wrap fm = fm) (hk : 0 ≤ k ∧ k < 61) (h : runF loopF ⟨[k,fm],[],[],s⟩ = o) (hc : ¬ s < 5 + 6 * k) : true = (true && decide (o.End = 1) && decide (o.Val = IntKind.i32.wrap (fm + IntKind.i32.wrap ((IntKind.i32.wrap (k * IntKind.i32.wrap (k - 1))).tdiv 2))) && decide (o.Steps = 5 + 6 * k)) := by
 have h1 := h.symm.trans (loop_run (k := k) (fm := fm) (N := s) (by omega) (by omega))
 rw [h1,← loop_val hf hk]; simp
theorem u16m' {n m : Int} (h : IntKind.u16.wrap n = n) (hm : 0 < m ∧ m ≤ 1000) : 0 ≤ IntKind.i64.wrap (Int.tmod n m) ∧ IntKind.i64.wrap (Int.tmod n m) < m := by
 rw [IntKind.wrap_u16] at h
 rw [Int.tmod_eq_emod_of_nonneg (by omega),IntKind.wrap_i64]
 have := Int.emod_nonneg n (show m ≠ 0 by omega)
 have := Int.emod_lt_of_pos n hm.1
 omega
set_option maxRecDepth 8000 in
theorem loop_ct4 (n : Int) (fm : Int) (st : Int) (ww0 : IntKind.u8.wrap n = n) (ww1 : IntKind.i32.wrap fm = fm) (ww2 : IntKind.u16.wrap st = st) : Tv Try.prog 5 #[.int .u8 n,.int .i32 fm,.int .u16 st] [] [] (.bool true) := by
 refine jenter (args := [.int .u8 n,.int .i32 fm,.int .u16 st]) Try.func5 rfl rfl rfl fun w0 X => ?_
 have hk := u8m (m := 61) ww0 (by decide)
 have hN := u16m' (m := 512) ww2 (by decide)
 refine jq (jr (ja Z (jn (jx (jq (jr (jcv E10 Z Z shown4_ct dn kn (ja Z (jn (jx (jq ?_)))))))))))
 refine jr (jm Z (js (jrem Z Z (by decide)) (js (jco U5 U21 Z Z) ?_)))
 have hwk := JE.wrap_wrap .i32 (Int.tmod n 61)
 generalize hkk : IntKind.i32.wrap (Int.tmod n 61) = kk at hwk hk ⊢
 refine ja Z (jn (jx (jq (jr (js (jbu (v := .agg #[.int .i64 1,.int .i64 2,.int .i64 0,.slice none 0 0,.int .i32 0]) Z (fun _ => by kernel_rfl)) (jlit (r := rIns) (l := [⟨1,2,0,[],0⟩]) U35 I34 (by decide) Z Z Z (lA (rIns.M (m := ⟨1,2,0,[],0⟩) (c := (.slice none 0 0)) wN (wl 1) (wl 2) (wl 0) (wl 0)) ln) fun g18 => jlit (r := (rI .i64)) (l := [1]) U32 I3 (by decide) Z Z Z (lV Z Z (wI (wl 1)) ln) fun g19 => js (jbu (v := .agg #[.int .i64 1,.slice none 0 0,(.slice (some ⟨g19,0,none⟩) 1 1),.int .i32 0]) Z (fun _ => by kernel_rfl)) (js (jbu (v := .agg #[.slice none 0 0,(.slice (some ⟨g18,0,none⟩) 1 1),.int .i64 1,.slice none 0 0,(.slice (some ⟨g19,0,none⟩) 1 1),.int .i32 0]) Z (fun _ => by kernel_rfl)) (js (jbu (v := .agg #[.int .i64 0,.int .i64 2]) Z (fun _ => by kernel_rfl)) (js (jbu (v := .agg #[.int .i64 2,.int .i64 7]) Z (fun _ => by kernel_rfl)) ?_)))))))))
 refine jlit (r := rIn) (l := [⟨0,2⟩,⟨2,7⟩]) U55 I54 (by decide) Z Z Z (lA (rIn.M (m := ⟨0,2⟩) (c := ()) (wl 0) (wl 2)) (lA (rIn.M (m := ⟨2,7⟩) (c := ()) (wl 2) (wl 7)) ln)) fun g24 => js (jbu (v := .agg #[.int .i64 3,(.slice (some ⟨g24,0,none⟩) 2 2)]) Z (fun _ => by kernel_rfl)) (js (jbu (v := .agg #[.int .i64 0,.int .i64 1]) Z (fun _ => by kernel_rfl)) (js (jbu (v := .agg #[.int .i64 2,.int .i64 8]) Z (fun _ => by kernel_rfl)) (jlit (r := rIn) (l := [⟨0,1⟩,⟨2,8⟩]) U55 I54 (by decide) Z Z Z (lA (rIn.M (m := ⟨0,1⟩) (c := ()) (wl 0) (wl 1)) (lA (rIn.M (m := ⟨2,8⟩) (c := ()) (wl 2) (wl 8)) ln)) fun g28 => js (jbu (v := .agg #[.int .i64 4,(.slice (some ⟨g28,0,none⟩) 2 2)]) Z (fun _ => by kernel_rfl)) (jfz k1 (by (try simp) <;> omega) (jfz k0 (by (try simp) <;> omega) (jlit (r := rPhi) (l := [⟨3,[⟨0,2⟩,⟨2,7⟩]⟩,⟨4,[⟨0,1⟩,⟨2,8⟩]⟩]) U50 I57 (by decide) Z Z Z (lA (rPhi.M (m := ⟨3,[⟨0,2⟩,⟨2,7⟩]⟩) (c := (.slice (some ⟨g24,0,none⟩) 2 2)) d1 (wl 3)) (lA (rPhi.M (m := ⟨4,[⟨0,1⟩,⟨2,8⟩]⟩) (c := (.slice (some ⟨g28,0,none⟩) 2 2)) d0 (wl 4)) ln)) fun g30 => jlit (r := (rI .i64)) (l := [3,0]) U32 I3 (by decide) Z Z Z (lV Z Z (wI (wl 3)) (lV Z Z (wI (wl 0)) ln)) fun g31 => js (jbu (v := .agg #[.int .i64 12,.int .i64 5,.int .i64 0,(.slice (some ⟨g31,0,none⟩) 2 2),.int .i32 0]) Z (fun _ => by kernel_rfl)) (jfz k0 (by (try simp) <;> omega) ?_)))))))
 refine jlit (r := rIns) (l := [⟨12,5,0,[3,0],0⟩]) U35 I34 (by decide) Z Z Z (lA (rIns.M (m := ⟨12,5,0,[3,0],0⟩) (c := (.slice (some ⟨g31,0,none⟩) 2 2)) d0 (wl 12) (wl 5) (wl 0) (wl 0)) ln) fun g33 => jlit (r := (rI .i64)) (l := [5]) U32 I3 (by decide) Z Z Z (lV Z Z (wI (wl 5)) ln) fun g34 => jlit (r := (rI .i64)) (l := [2,3]) U32 I3 (by decide) Z Z Z (lV Z Z (wI (wl 2)) (lV Z Z (wI (wl 3)) ln)) fun g35 => js (jbu (v := .agg #[.int .i64 2,(.slice (some ⟨g34,0,none⟩) 1 1),(.slice (some ⟨g35,0,none⟩) 2 2),.int .i32 0]) Z (fun _ => by kernel_rfl)) (js (jbu (v := .agg #[(.slice (some ⟨g30,0,none⟩) 2 2),(.slice (some ⟨g33,0,none⟩) 1 1),.int .i64 2,(.slice (some ⟨g34,0,none⟩) 1 1),(.slice (some ⟨g35,0,none⟩) 2 2),.int .i32 0]) Z (fun _ => by kernel_rfl)) (js (jbu (v := .agg #[.int .i64 1,.int .i64 6,.int .i64 0,.slice none 0 0,.int .i32 1]) Z (fun _ => by kernel_rfl)) (jlit (r := (rI .i64)) (l := [3,6]) U32 I3 (by decide) Z Z Z (lV Z Z (wI (wl 3)) (lV Z Z (wI (wl 6)) ln)) fun g39 => js (jbu (v := .agg #[.int .i64 2,.int .i64 7,.int .i64 0,(.slice (some ⟨g39,0,none⟩) 2 2),.int .i32 0]) Z (fun _ => by kernel_rfl)) (jlit (r := (rI .i64)) (l := [4,3]) U32 I3 (by decide) Z Z Z (lV Z Z (wI (wl 4)) (lV Z Z (wI (wl 3)) ln)) fun g41 => js (jbu (v := .agg #[.int .i64 2,.int .i64 8,.int .i64 0,(.slice (some ⟨g41,0,none⟩) 2 2),.int .i32 0]) Z (fun _ => by kernel_rfl)) (jfz k1 (by (try simp) <;> omega) (jfz k0 (by (try simp) <;> omega) ?_))))))
 refine jlit (r := rIns) (l := [⟨1,6,0,[],1⟩,⟨2,7,0,[3,6],0⟩,⟨2,8,0,[4,3],0⟩]) U35 I34 (by decide) Z Z Z (lA (rIns.M (m := ⟨1,6,0,[],1⟩) (c := (.slice none 0 0)) wN (wl 1) (wl 6) (wl 0) (wl 1)) (lA (rIns.M (m := ⟨2,7,0,[3,6],0⟩) (c := (.slice (some ⟨g39,0,none⟩) 2 2)) d1 (wl 2) (wl 7) (wl 0) (wl 0)) (lA (rIns.M (m := ⟨2,8,0,[4,3],0⟩) (c := (.slice (some ⟨g41,0,none⟩) 2 2)) d0 (wl 2) (wl 8) (wl 0) (wl 0)) ln))) fun g43 => jlit (r := (rI .i64)) (l := [1]) U32 I3 (by decide) Z Z Z (lV Z Z (wI (wl 1)) ln) fun g44 => js (jbu (v := .agg #[.int .i64 1,.slice none 0 0,(.slice (some ⟨g44,0,none⟩) 1 1),.int .i32 0]) Z (fun _ => by kernel_rfl)) (js (jbu (v := .agg #[.slice none 0 0,(.slice (some ⟨g43,0,none⟩) 3 3),.int .i64 1,.slice none 0 0,(.slice (some ⟨g44,0,none⟩) 1 1),.int .i32 0]) Z (fun _ => by kernel_rfl)) (jcs2 E13 Z Z (ret4_ct 4 (by decide)) dn kn fun c47a c47b => jdq (rTerm.c_Args d0) fun q7 w7 => jdq (rTerm.c_To d0) fun q8 w8 => js (jbu (v := .agg #[.slice none 0 0,.slice none 0 0,.int .i64 ((ret3 4).Kind),c47a,c47b,.int .i32 ((ret3 4).Imm)]) Z (fun _ => by obtain ⟨_,_,_,rfl⟩ := w7; obtain ⟨_,_,_,rfl⟩ := w8; kernel_rfl)) (jfz k7 (by (try simp) <;> omega) (jfz k6 (by (try simp) <;> omega) (jfz k5 (by (try simp) <;> omega) (jfz k4 (by (try simp) <;> omega) ?_))))))
 refine jfz k3 (by (try simp) <;> omega) (jfz k2 (by (try simp) <;> omega) (jfz k1 (by (try simp) <;> omega) (jfz k0 (by (try simp) <;> omega) (jlit (r := rBlock) (l := [⟨[],[⟨1,2,0,[],0⟩],⟨1,[],[1],0⟩⟩,⟨[⟨3,[⟨0,2⟩,⟨2,7⟩]⟩,⟨4,[⟨0,1⟩,⟨2,8⟩]⟩],[⟨12,5,0,[3,0],0⟩],⟨2,[5],[2,3],0⟩⟩,⟨[],[⟨1,6,0,[],1⟩,⟨2,7,0,[3,6],0⟩,⟨2,8,0,[4,3],0⟩],⟨1,[],[1],0⟩⟩,⟨[],[],ret3 4⟩]) U28 I52 (by decide) Z Z Z (lA (rBlock.M (m := ⟨[],[⟨1,2,0,[],0⟩],⟨1,[],[1],0⟩⟩) (c := (.slice none 0 0,(.slice (some ⟨g18,0,none⟩) 1 1),.slice none 0 0,(.slice (some ⟨g19,0,none⟩) 1 1))) wN d7 wN d6 (wl 1) (wl 0)) (lA (rBlock.M (m := ⟨[⟨3,[⟨0,2⟩,⟨2,7⟩]⟩,⟨4,[⟨0,1⟩,⟨2,8⟩]⟩],[⟨12,5,0,[3,0],0⟩],⟨2,[5],[2,3],0⟩⟩) (c := ((.slice (some ⟨g30,0,none⟩) 2 2),(.slice (some ⟨g33,0,none⟩) 1 1),(.slice (some ⟨g34,0,none⟩) 1 1),(.slice (some ⟨g35,0,none⟩) 2 2))) d5 d4 d3 d2 (wl 2) (wl 0)) (lA (rBlock.M (m := ⟨[],[⟨1,6,0,[],1⟩,⟨2,7,0,[3,6],0⟩,⟨2,8,0,[4,3],0⟩],⟨1,[],[1],0⟩⟩) (c := (.slice none 0 0,(.slice (some ⟨g43,0,none⟩) 3 3),.slice none 0 0,(.slice (some ⟨g44,0,none⟩) 1 1))) wN d1 wN d0 (wl 1) (wl 0)) (lA (rBlock.M (m := ⟨[],[],ret3 4⟩) (c := (.slice none 0 0,.slice none 0 0,c47a,c47b)) wN wN (rTerm.c_Args d8) (rTerm.c_To d8) (rTerm.W_Kind d8) (rTerm.W_Imm d8)) ln)))) fun g49 => js (jbu (v := .agg #[.int .i64 2,(.slice (some ⟨g49,0,none⟩) 4 4)]) Z (fun _ => by kernel_rfl)) (jalc J30 Z fun g9 => jsta k0 Z30 Z Z Z ⟨Z,Z,trivial⟩ (saf Z) (jn (jx (jq (jr ?_)))))))))
 refine jm Z (js (jco U21 U3 Z (up_i32_i64 hwk)) (js (jmul Z Z (by omega)) (js (jadd Z Z (by omega)) (ja Z (jn (jx (jq (jr (jm Z (js (jrem Z Z (by decide)) (js (jco U49 U3 Z Z) ?_)))))))))))
 have hws := JE.wrap_wrap .i64 (Int.tmod st 512)
 generalize hss : IntKind.i64.wrap (Int.tmod st 512) = ss at hws hN ⊢
 refine ja Z (jn (jx (jq (jr (js (jla k0 A30 Z30 Z Z Z) (jm Z (jm Z (jlit (r := (rI .i32)) (l := [kk,fm]) U23 I21 (by decide) Z Z Z (lV Z Z (wI (wp hwk)) (lV Z Z (wI (wp ww1)) ln)) fun g61 => jm Z (js (jbu (v := .agg #[(.slice (some ⟨g61,0,none⟩) 2 2),.slice none 0 0,.slice none 0 0,.int .i64 ss]) Z (fun _ => by kernel_rfl)) (jfz k2 (by (try simp) <;> omega) ?_))))))))))
 refine jfz k0 (by (try simp) <;> omega) (jcs2 E11 Z Z (rRun_ct (i := ⟨[kk,fm],[],[],ss⟩) (f := ⟨2,[⟨[],[⟨1,2,0,[],0⟩],⟨1,[],[1],0⟩⟩,⟨[⟨3,[⟨0,2⟩,⟨2,7⟩]⟩,⟨4,[⟨0,1⟩,⟨2,8⟩]⟩],[⟨12,5,0,[3,0],0⟩],⟨2,[5],[2,3],0⟩⟩,⟨[],[⟨1,6,0,[],1⟩,⟨2,7,0,[3,6],0⟩,⟨2,8,0,[4,3],0⟩],⟨1,[],[1],0⟩⟩,⟨[],[],ret3 4⟩]⟩) loop_good (by dsimp only; omega)) (dc (rFunc.M (m := ⟨2,[⟨[],[⟨1,2,0,[],0⟩],⟨1,[],[1],0⟩⟩,⟨[⟨3,[⟨0,2⟩,⟨2,7⟩]⟩,⟨4,[⟨0,1⟩,⟨2,8⟩]⟩],[⟨12,5,0,[3,0],0⟩],⟨2,[5],[2,3],0⟩⟩,⟨[],[⟨1,6,0,[],1⟩,⟨2,7,0,[3,6],0⟩,⟨2,8,0,[4,3],0⟩],⟨1,[],[1],0⟩⟩,⟨[],[],ret3 4⟩]⟩) (c := (.slice (some ⟨g49,0,none⟩) 4 4)) d1 (wl 2)) (dc (rInput.M (m := ⟨[kk,fm],[],[],ss⟩) (c := ((.slice (some ⟨g61,0,none⟩) 2 2),.slice none 0 0,.slice none 0 0)) d0 wN wN (wp hws)) dn)) kn fun c64a c64b => ?_)
 generalize hoa : runF (⟨2,[⟨[],[⟨1,2,0,[],0⟩],⟨1,[],[1],0⟩⟩,⟨[⟨3,[⟨0,2⟩,⟨2,7⟩]⟩,⟨4,[⟨0,1⟩,⟨2,8⟩]⟩],[⟨12,5,0,[3,0],0⟩],⟨2,[5],[2,3],0⟩⟩,⟨[],[⟨1,6,0,[],1⟩,⟨2,7,0,[3,6],0⟩,⟨2,8,0,[4,3],0⟩],⟨1,[],[1],0⟩⟩,⟨[],[],ret3 4⟩]⟩) (⟨[kk,fm],[],[],ss⟩) = oa at ⊢
 refine jalc J26 Z fun g12 => jdq (rOutcome.c_Mem d0) fun q20 w20 => jdq (rOutcome.c_Calls d0) fun q21 w21 => jsta k0 Z26 Z Z Z ⟨Z,Z,w20.one,w21.one,Z,trivial⟩ (saf Z) (jn (jx (jq (jq (jr (jm Z (jm Z (js (jlss Z Z) ?_))))))))
 refine jn (jx ?_)
 refine jif Z (fun hc1 => ?_) (fun hc1 => ?_)
 refine jq (jr (jm Z (jm Z (jk Z Z (.t _) (jf F26_0 Z) (jk Z Z (.t _) (jl k0 O3 Z Z) (jk Z Z (.t _) (jeql Z Z) (js (jand Z Z) (jm Z (jg Z Z (.t _) (fun hg => jf F26_4 Z) (jg Z Z (.t _) (fun hg => jl k0 O3 (evg Z hg) Z) (jg Z Z (.t _) (fun hg => jmv Z) ?_)))))))))))
 refine jg Z Z (.t _) (fun hg => jeql (evg Z hg) (evg Z hg)) (js (jand Z Z) (jm Z (jg Z Z (.t _) (fun hg => jf F26_1 Z) (jg Z Z (.t _) (fun hg => jl k0 O21 (evg Z hg) Z) (jg Z Z (.t _) (fun hg => jeql (evg Z hg) Z) (js (jand Z Z) (ja Z (jn (jx (jrt (jtr ?_)))))))))))
 exact jrB Z Z (by first | exact loop_a hk hN.1 hoa hc1 | exact loop_b ww1 hk hoa hc1)
 refine jsk (jx (jq (jr (jm Z (jm Z (jk Z Z (.t _) (jf F26_0 Z) (jk Z Z (.t _) (jl k0 O3 Z Z) (jk Z Z (.t _) (jeql Z Z) (js (jand Z Z) (jm Z (jg Z Z (.t _) (fun hg => jf F26_1 Z) ?_)))))))))))
 refine jg Z Z (.t _) (fun hg => jl k0 O21 (evg Z hg) Z) (jg Z Z (.t _) (fun hg => jmv Z) (jg Z Z (.t _) (fun hg => jmv Z) (jg Z Z (.t _) (fun hg => jmv Z) (jg Z Z (.t _) (fun hg => jsubw (evg Z hg) Z) (jg Z Z (.t _) (fun hg => jmulw (evg Z hg) (evg Z hg)) (jg Z Z (.t _) (fun hg => jquo (evg Z hg) Z (by decide)) (jg Z Z (.t _) (fun hg => jaddw (evg Z hg) (evg Z hg)) (jg Z Z (.t _) (fun hg => jeql (evg Z hg) (evg Z hg)) (js (jand Z Z) (jm Z (jg Z Z (.t _) (fun hg => jf F26_4 Z) ?_)))))))))))
 refine jg Z Z (.t _) (fun hg => jl k0 O3 (evg Z hg) Z) (jg Z Z (.t _) (fun hg => jmv Z) (jg Z Z (.t _) (fun hg => jeql (evg Z hg) (evg Z hg)) (js (jand Z Z) (ja Z (jn (jx (jrt ?_)))))))
 exact jrB Z Z (by first | exact loop_a hk hN.1 hoa hc1 | exact loop_b ww1 hk hoa hc1)
end Go.Proofs.Ytmfkkodnghambaa
