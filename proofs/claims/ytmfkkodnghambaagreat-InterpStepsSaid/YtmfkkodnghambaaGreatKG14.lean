/- Lemmas that the claim is made of. Conditions: each lemma names its own. -/
import Derived.Test.YtmfkkodnghambaaGreatKG13
import Derived.Test.YtmfkkodnghambaaGreatKG8
set_option linter.unusedSectionVars false
set_option linter.unusedSimpArgs false
set_option linter.unusedVariables false
namespace Go.Proofs.YtmfkkodnghambaaGreat
open Go.JE
def aok (op : Int) (n : Nat) : Prop := (operM op).1 ≤ (n : Int) ∧ (n : Int) ≤ (operM op).2
instance (op : Int) (n : Nat) : Decidable (aok op n) := by unfold aok; infer_instance
def tok (t : D.Term) : Prop := (t.Kind = 2 ∨ t.Kind = 3 → t.Args.length = 1) ∧ (t.Kind = 1 ∨ t.Kind = 5 → t.Args.length = 0) ∧ (t.Kind = 4 → t.Args.length ≤ 1)
def AB (bs : List D.Block) : Prop := ∀ j,(∀ i ∈ (ix bs j).Ins,aok i.Op i.Args.length) ∧ tok (ix bs j).Term
theorem AB.put {bs : List D.Block} {b : Nat} {x : D.Block} (h : AB bs) (hi : ∀ i ∈ x.Ins,i ∈ (ix bs b).Ins ∨ aok i.Op i.Args.length) (ht : x.Term = (ix bs b).Term ∨ tok x.Term) : AB (bs.set b x) := fun j => by
 by_cases hb : b < bs.length
 · rw [ix_set hb]; split
   · rename_i e; subst e
     exact ⟨fun i h1 => (hi i h1).elim ((h _).1 i) id,ht.elim (fun e => e ▸ (h _).2) id⟩
   · exact h j
 · rw [List.set_eq_of_length_le (by omega)]; exact h j
def AG (m m' : Mk) : Prop := AB m.bs → AB m'.bs
section
variable {m m' m2 : Mk} {j : Int} {b : Nat}
theorem AG.rf : AG m m := id
theorem AG.tr (h : AG m m') (h2 : AG m' m2) : AG m m2 := fun h3 => h2 (h h3)
theorem AG.same (h2 : m'.bs = m.bs) : AG m m' := fun h => h2 ▸ h
theorem AG.ad {i : D.Ins} (h2 : m'.bs = m.bs) (hi : aok i.Op i.Args.length) : AG m (addS j i m') := fun h => by
 show AB (m'.bs.set _ _)
 rw [h2]
 exact h.put (fun x hx => (List.mem_append.1 hx).imp id (fun h1 => by simp at h1; subst h1; exact hi)) (.inl rfl)
theorem AG.con {v : Int} (h : AG m m') : AG m (constS j v m') := h.tr (AG.ad (m' := freshS m') rfl (by show aok 1 0; decide))
theorem AG.tk (h : AG m m') : AG m (tSS m') := h.tr (.same rfl)
theorem AG.wd (h : AG m m') : AG m (wordS m') := h.tr (.same rfl)
theorem AG.aF {op x v : Int} {a : List Int} (h : AG m m') (ho : aok op a.length) : AG m (addS j ⟨op,x,0,a,v⟩ (freshS m')) := h.tr (AG.ad rfl ho)
theorem AG.aT {op x v : Int} {a : List Int} (h : AG m m') (ho : aok op a.length) : AG m (addS j ⟨op,x,0,a,v⟩ (tSS (freshS m'))) := h.tr (AG.ad rfl ho)
theorem AG.val (h : AG m m') : AG m (valueS m') := by unfold valueS; split; exact h; exact .tk (.tk h)
theorem AG.som0 (h : AG m m') : AG m (someM0 m') := by
 unfold someM0; split
 · exact .tk (.val h)
 · exact .val h
theorem AG.som (h : AG m m') : AG m (sS9 j m') := by
 unfold sS9; split
 · exact .con (.wd (.som0 h))
 · exact .som0 h
theorem AG.me1 (h : AG m m') : AG m (mem1 j m').2 := by
 unfold mem1; dsimp only; split
 · exact .aF (.aF (.con (.som (.tk (.con (.tk h))))) (by show aok 5 2; decide)) (by show aok 2 2; decide)
 · exact .tk (.con (.tk h))
theorem AG.me2 (h : AG m m') : AG m (mem2 m').2 := by unfold mem2; dsimp only; split <;> exact h.tr (.same rfl)
theorem AG.mem {st : Bool} (h : AG m m') : AG m (memS j st m') := by
 unfold memS; dsimp only; split
 · exact AG.tr (m' := sS9 j (mem2 (mem1 j m').2).2) (.som (.me2 (.me1 h))) (AG.ad rfl (by show aok 16 2; decide))
 · exact .aF (.me2 (.me1 h)) (by show aok 15 1; decide)
theorem argsL_len (b : Int) : ∀ (k : Nat) (l : List Int) (m : Mk),(argsL b k l m).1.length = l.length + k
 | 0,_,_ => rfl
 | k + 1,l,m => by rw [argsL,argsL_len b k]; simp; omega
theorem AG.args : ∀ (k : Nat) (l : List Int) (m' : Mk),AG m m' → AG m (argsL j k l m').2
 | 0,_,_,h => h
 | k + 1,l,m',h => by rw [argsL]; exact AG.args k _ _ (.som h)
theorem op_aok {i : Nat} (h : i < 12) : aok (ix [(2 : Int),2,3,4,5,6,7,8,9,10,12,11] i) 2 := by
 have : ∀ i : Nat,i < 12 → aok (ix [(2 : Int),2,3,4,5,6,7,8,9,10,12,11] i) 2 := by decide
 exact this i h
theorem AG.mw {d t : Int} {a : List Int} (h : AG m m') (ha : a.length = 2) : AG m (addS j ⟨18,d,t,a,0⟩ (freshS (freshS m'))) := h.tr (AG.ad rfl (by show aok 18 a.length; rw [ha]; decide))
theorem AG.ins (h : AG m m') : AG m (insS j m') := by
 have hk := tV9 (n := 20) (by omega) m'
 unfold insS; dsimp only
 generalize tVV 20 m' = k at hk
 have h3 : AG m (sS9 j (sS9 j (tSS m'))) := .som (.som (.tk h))
 split
 · split
   · exact .aF (.con (.tk (.tk h3))) (op_aok (by omega))
   · exact .aF (.tk h3) (op_aok (by omega))
 split
 · exact .aF h3 (by show aok _ 2; decide)
 split
 · split
   · exact .aF (.con (.tk (.tk (.con (.tk (.som (.tk h))))))) (by show aok _ 2; decide)
   · exact .aF (.tk (.con (.tk (.som (.tk h))))) (by show aok _ 2; decide)
 split
 · exact .mem (.tk h)
 split
 · refine .aT (AG.args _ _ _ (.tk (.tk h))) ?_
   have h5 := tV9 (n := 5) (by omega) (tSS m')
   have e : aok 17 (argsL j (tVV 5 (tSS m')).toNat [] (tSS (tSS m'))).1.length := by
     rw [argsL_len]
     have : ∀ q : Nat,q ≤ 4 → aok 17 (([] : List Int).length + q) := by decide
     exact this _ (by omega)
   exact e
 split
 · exact .mw h3 rfl
 · exact .con (.wd (.tk h))
theorem AG.is : ∀ (k : Nat) (m' : Mk),AG m m' → AG m (insN b k m')
 | 0,_,h => h
 | k + 1,m',h => by rw [insN]; exact AG.is k _ (.ins h)
theorem AG.sT {t : D.Term} (h : AG m m') (ht : tok t) : AG m (setT j t m') := h.tr fun h => by
 show AB (m'.bs.set _ _)
 exact h.put (fun i hi => .inl hi) (.inr ht)
theorem AG.en {l : List Int} (h : AG m m') : AG m (endS j l m') := by
 unfold endS
 split
 · split
   · exact .sT (.tk (.tk h)) ⟨fun h => by simp at h,fun _ => rfl,fun h => by simp at h⟩
   split
   · exact .sT (.som (.tk h)) ⟨fun h => by simp at h,fun h => by simp at h,fun _ => by simp⟩
   · exact .sT (.tk h) ⟨fun h => by simp at h,fun h => by simp at h,fun _ => by simp⟩
 split
 · exact .sT h ⟨fun h => by simp at h,fun _ => rfl,fun h => by simp at h⟩
 split
 · dsimp only
   split
   · have ho : ∀ i : Nat,i < 3 → aok (ix [(11 : Int),12,13] i) 2 := by decide
     have hr := tV9 (n := 3) (by omega) (freshS (sS9 j (tSS (sS9 j m'))))
     exact .sT (.aT (.som (.tk (.som h))) (ho _ (by omega))) ⟨fun _ => rfl,fun h => by simp at h,fun h => by simp at h⟩
   · exact .sT (.tk (.som h)) ⟨fun _ => rfl,fun h => by simp at h,fun h => by simp at h⟩
 · dsimp only
   exact .sT (.aF (.con (.som h)) (by show aok _ 2; decide)) ⟨fun _ => rfl,fun h => by simp at h,fun h => by simp at h⟩
theorem AG.bl {n : Nat} {to : List (List Int)} {dn : List Bool} : AG m (blkM n to b dn m) := by
 unfold blkM
 exact AG.en (AG.is _ _ (.tk (.same rfl)))
theorem AG.row {n : Nat} {to : List (List Int)} : ∀ (k b : Nat) (dn : List Bool) (m : Mk),AG m (rowS n to k b dn m).2
 | 0,_,_,_ => .rf
 | k + 1,b,dn,m => by
   rw [rowS]; split
   · exact AG.bl.tr (AG.row k _ _ _)
   · exact AG.row k _ _ _
theorem AG.turn {n : Nat} {to : List (List Int)} : ∀ (k : Nat) (dn : List Bool) (m : Mk),AG m (turnS n to k dn m).2
 | 0,_,_ => .rf
 | k + 1,dn,m => by rw [turnS]; exact (AG.row _ _ _ _).tr (AG.turn k _ _)
theorem AG.ap : AG m (addP b m) := fun h => by
 show AB (m.bs.set _ _)
 exact h.put (fun i hi => .inl hi) (.inl rfl)
theorem AG.pn : ∀ (k : Nat) (m : Mk),AG m (phiN b k m)
 | 0,_ => .rf
 | k + 1,m => by rw [phiN]; exact AG.ap.tr (AG.pn k _)
theorem AG.ps : ∀ (k j : Nat) (ph : List Int) (m : Mk),AG m (phiS k j ph m).2
 | 0,_,_,_ => .rf
 | k + 1,j,ph,m => by rw [phiS]; exact AG.tr (m' := tSS m) (.tk .rf) ((AG.pn _ _).tr (AG.ps k _ _ _))
theorem AG.inx {p : Int} : AG m (inX p m).2 := by
 unfold inX; split
 · exact .tk (.con (.wd .rf))
 · exact .tk .rf
theorem AG.ins' {p : List Int} : ∀ (k i : Nat) (l : List D.In) (m : Mk),AG m (inS p k i l m).2
 | 0,_,_,_ => .rf
 | k + 1,i,l,m => by rw [inS]; exact AG.inx.tr (AG.ins' k _ _ _)
theorem AG.pi {i : Nat} {l : List D.In} : AG m (putIn b i l m) := fun h => by
 show AB (m.bs.set _ _)
 exact h.put (fun i hi => .inl hi) (.inl rfl)
theorem AG.ip {p : List Int} : ∀ (k i : Nat) (m : Mk),AG m (inP p b k i m)
 | 0,_,_ => .rf
 | k + 1,i,m => by rw [inP]; exact (AG.ins' _ _ _ _).tr (AG.pi.tr (AG.ip k _ _))
theorem AG.fi {ph : List Int} : ∀ (k j : Nat) (m : Mk),AG m (finS ph k j m)
 | 0,_,_ => .rf
 | k + 1,j,m => by rw [finS]; exact (AG.ip _ _ _).tr (AG.fi k _ _)
end
theorem made3_args (s : List Int) : AB (made3 s).Blocks := by
 have hb : AB (mdB s).bs := fun j => by
   obtain ⟨a1,a2,a3,a4,a5⟩ := toS_bs (mdT s).1 (mdN s).toNat 0 { (mdT s).2 with bs := List.replicate (mdN s).toNat default }
   obtain ⟨h0,_,_,_,_⟩ := mdB_RI s
   by_cases hj : j < (mdN s).toNat
   · have := a5 j (by show j < (List.replicate _ _).length; simpa using hj)
     rw [if_pos (by omega)] at this
     dsimp only at this
     rw [ix_repD] at this
     have e : ix (mdB s).bs j = { (default : D.Block) with Term := { (default : D.Block).Term with To := ix (mdT s).1 j } } := this
     rw [e]
     exact ⟨fun i hi => (by cases hi),⟨fun h => (by rcases h with h | h <;> cases h),fun _ => rfl,fun _ => Nat.zero_le _⟩⟩
   · rw [ix_out (by have := h0.len; show (mdB s).bs.length ≤ j; omega)]
     exact ⟨fun i hi => (by cases hi),⟨fun h => (by rcases h with h | h <;> cases h),fun _ => rfl,fun _ => Nat.zero_le _⟩⟩
 exact ((AG.ps _ _ _ _).tr (AG.turn _ _ _)).tr (AG.fi _ _ _) hb
section
variable {f : D.Func} {n : Nat} {to : List (List Int)} {nx : Int}
theorem Right3.gr (h : Right3 n to f nx) {q t : Nat} (hq : q < n) : prG (graphF f) q t ↔ (t : Int) ∈ ix to q := by
 have hl := h.len
 have h1 : ix (cleanM (graphF f)) q = keptM (ix (graphF f) q) (graphF f).length := by unfold cleanM; rw [ix_mapG (by rw [graph_len]; omega)]
 have h2 : ix (graphF f) q = keptM (ix f.Blocks q).Term.To f.Blocks.length := by unfold graphF; rw [ix_mapG (l := f.Blocks) (by omega)]
 unfold prG
 rw [h1,h2,graph_len,kept_kept,kept_mem,h.tos q hq]
 refine ⟨fun h => h.1,fun h3 => ⟨h3,?_⟩⟩
 have := h.tr.2.2 q _ h3
 omega
theorem Right3.rb (h : Right3 n to f nx) {w b : Nat} (hr : RB (prG (graphF f)) w b) : RA to n w b ∧ b < n := by
 have hn := h.n1
 have hl := h.len
 induction hr with
 | zero h0 => exact ⟨.zero h0,by omega⟩
 | @step x t h1 h2 h3 ih =>
   have h4 := (h.gr ih.2).1 h2
   have h5 := h.tr.2.2 x _ h4
   have := RA.step ih.1 h4 h5.1 h5.2 (by omega)
   rw [Int.toNat_natCast] at this
   exact ⟨this,by omega⟩
theorem Right3.rch (h : Right3 n to f nx) : ∀ (k b : Nat),b < k → b < n → RB (prG (graphF f)) n b
 | 0,b,hb,_ => absurd hb (Nat.not_lt_zero _)
 | k + 1,b,hk,hb => by
   have hn := h.n1
   by_cases e : b = 0
   · rw [e]; exact .zero (by omega)
   · obtain ⟨p,h1,h2⟩ := h.pb b (by omega) (by omega)
     exact .step (h.rch k p (by omega) (by omega)) ((h.gr (by omega)).2 h2) (by omega)
theorem Right3.pk (h : Right3 n to f nx) {v : Nat} : ∀ k,k ≤ n → predK (cleanM (graphF f)) k v = pT to k v
 | 0,_ => rfl
 | k + 1,hk => by
   rw [predK,pT,h.pk k (by omega)]
   congr 1
   have h1 : (v : Int) ∈ ix (cleanM (graphF f)) k ↔ (v : Int) ∈ ix to k := h.gr (by omega)
   by_cases h2 : (v : Int) ∈ ix to k
   · rw [if_pos (h1.2 h2),if_pos (List.any_eq_true.2 ⟨_,h2,by simp⟩)]
   · rw [if_neg (fun h3 => h2 (h1.1 h3)),if_neg (fun h3 => by
       obtain ⟨y,h4,h5⟩ := List.any_eq_true.1 h3
       simp at h5; subst h5; exact h2 h4)]
theorem cnt_cI : ∀ (l : List D.Block),(∀ x ∈ l,x.Phis.length ≤ 3) → cntF3 l ≤ 3 * l.length + cI l
 | [],_ => by simp [cntF3,cI]
 | x :: l,h => by
   have h1 := cnt_cI l (fun y hy => h y (by simp [hy]))
   have h2 := h x (by simp)
   unfold cntF3 at h1 ⊢
   rw [List.map_cons,List.sum_cons,cI,List.length_cons]
   omega
theorem Right3.us (h : Right3 n to f nx) {b a : Nat} {v : Int} {p : Int} (ha : a < n) (hab : a ≠ b) (hr : ¬ RA to n a b) (hv : v ∈ mkB (ix f.Blocks a)) : US f v b p := by
 have hl := h.len
 refine .inr ?_
 rcases mkB_ix.1 hv with ⟨i,h1,h2⟩ | ⟨i,h1,h2⟩
 · exact ⟨a,-1 - (i : Int),⟨by omega,.inl ⟨i,h1,h2,rfl⟩⟩,.inr ⟨hab,fun h3 => hr (h.rb h3).1⟩⟩
 · exact ⟨a,i,⟨by omega,.inr ⟨i,h1,h2,rfl⟩⟩,.inr ⟨hab,fun h3 => hr (h.rb h3).1⟩⟩
theorem us_phi {b i : Nat} {v p : Int} (hb : b < f.Blocks.length) (hi : i < (ix f.Blocks b).Phis.length) (hv : v = (ix (ix f.Blocks b).Phis i).Dst) : US f v b p :=
 .inr ⟨b,-1 - (i : Int),⟨hb,.inl ⟨i,hi,hv,rfl⟩⟩,.inl ⟨rfl,.inr (by omega)⟩⟩
theorem us_ins {b i : Nat} {v p : Int} (hb : b < f.Blocks.length) (hi : i < (ix f.Blocks b).Ins.length) (hv : v ∈ makes3 (ix (ix f.Blocks b).Ins i)) (hp : (i : Int) < p) : US f v b p :=
 .inr ⟨b,i,⟨hb,.inr ⟨i,hi,hv,rfl⟩⟩,.inl ⟨rfl,.inl hp⟩⟩
theorem Right3.vo (h : Right3 n to f nx) {b : Nat} {v p : Int} (hv : Vo n to f.Params f.Blocks b v) : US f v b p := by
 rcases hv with h1 | ⟨a,h1,⟨h2,h3⟩,h4⟩
 · exact .inl h1
 · exact h.us h1 h2 h3 h4
theorem Right3.vs (h : Right3 n to f nx) {b : Nat} {v : Int} (hb : b < n) (hv : Vs n to f.Params f.Blocks b v) : US f v b (ix f.Blocks b).Ins.length := by
 have hl := h.len
 rcases hv with h1 | ⟨a,h1,h3,h4⟩
 · exact .inl h1
 · by_cases e : a = b
   · subst e
     rcases mkB_ix.1 h4 with ⟨i,h5,h6⟩ | ⟨i,h5,h6⟩
     · exact us_phi (by omega) h5 h6
     · exact us_ins (by omega) h5 h6 (by omega)
   · exact h.us h1 e (h3.resolve_left e) h4
theorem good_of (h : Right3 n to f nx) (hV : VI n to f.Params f.Blocks) {ny : Int} (hU : UI f.Params ny f.Blocks) (hA : AB f.Blocks) : GoodF f := by
 have hn := h.n1
 have hl := h.len
 refine ⟨h.par,⟨by omega,by omega⟩,?_,⟨hU.nd,hU.dj⟩,fun b hb r hr => ?_,fun b hb i hi => ?_,fun b hb => ?_,fun b hb t ht => ?_,fun b hb => ⟨n,h.rch (b + 1) b (by omega) (by omega)⟩,fun b hb p hp => ?_,fun b hb i hi v hv => ?_,fun b hb v hv => h.vs (by omega) (hV.tm b (by omega) v hv),fun b hb p hp x hx => ?_⟩
 · have h1 := cnt_cI f.Blocks (fun x hx => by
     obtain ⟨j,hj,e⟩ := List.getElem_of_mem hx
     rw [← e,← ix_eq hj]; exact h.ph3 j (by omega))
   have := h.cnt
   omega
 · have h1 := hU.rg b r hr
   have h2 := h.blk b (by omega)
   have h3 := h.nxb
   rcases List.mem_append.1 hr with h4 | h4
   · obtain ⟨p,h5,h6⟩ := List.mem_map.1 h4
     have := (h2.2.1 p h5).1; omega
   · obtain ⟨i,h5,h6⟩ := List.mem_flatMap.1 h4
     have := (h2.1 i h5).2.2.2.2.1 r h6; omega
 · exact ⟨((h.blk b (by omega)).1 i hi).1,(hA b).1 i hi⟩
 · obtain ⟨h1,h2,h3⟩ := (hA b).2
   have hk := h.kd b (by omega)
   have hg := (h.blk b (by omega)).2.2.1.resolve_left hk
   obtain ⟨g1,g2,g3,g4,g5,g6⟩ := hg
   generalize (ix f.Blocks b).Term = t at *
   have hk5 : t.Kind = 1 ∨ t.Kind = 2 ∨ t.Kind = 3 ∨ t.Kind = 4 ∨ t.Kind = 5 := by omega
   rcases hk5 with e | e | e | e | e
   · exact ⟨(0,0,1,1),by rw [e]; rfl,by have := h2 (.inl e); dsimp only; omega,by have := g3 e; dsimp only; omega⟩
   · exact ⟨(1,1,2,2),by rw [e]; rfl,by have := h1 (.inl e); dsimp only; omega,by have := (g4 e).1; dsimp only; omega⟩
   · exact ⟨(1,1,2,65),by rw [e]; rfl,by have := h1 (.inr e); dsimp only; omega,by have := g5 e; dsimp only; omega⟩
   · exact ⟨(0,1,0,0),by rw [e]; rfl,by have := h3 e; dsimp only; omega,by rw [g6 (by omega)]; exact ⟨Int.le_refl _,Int.le_refl _⟩⟩
   · exact ⟨(0,0,0,0),by rw [e]; rfl,by have := h2 (.inr e); dsimp only; omega,by rw [g6 (by omega)]; exact ⟨Int.le_refl _,Int.le_refl _⟩⟩
 · rw [h.tos b (by omega)] at ht
   have := h.tr.2.2 b t ht
   omega
 · have h0 : b ≠ 0 := fun e => by subst e; rw [h.ph0] at hp; cases hp
   refine ⟨by omega,?_⟩
   rw [h.fr b (by omega) p hp,predsG_at,graph_len,hl,h.pk n (Nat.le_refl _)]
 · rcases hV.gd b (by omega) i hi v hv with (h1 | h1) | h1
   · exact h.vo h1
   · obtain ⟨p,h2,h3⟩ := List.mem_map.1 h1
     obtain ⟨j,hj,e⟩ := List.getElem_of_mem h2
     exact us_phi hb hj (by rw [ix_eq hj,e]; exact h3.symm)
   · obtain ⟨j,h2,h3,h4⟩ := pos_makes h1
     exact us_ins hb h3 h4 (by omega)
 · obtain ⟨h1,h2⟩ := hV.ph b (by omega) p hp x hx
   exact h.vs (by omega) h2
end
theorem good_made3 (s : List Int) : GoodF (made3 s) := by
 obtain ⟨nx,h⟩ := made3_right s
 obtain ⟨ny,hU⟩ := made3_once s
 exact good_of h (made3_dom s) hU (made3_args s)
def lawMade4 (l by' : List Int) (q : Int) : D.Func × D.Input := (made3 (l.take 200),{ input3 (by'.take 60) with Steps := min (max q (-1)) 500 })
theorem lawMade4_ct {a0 : Value} {l : List Int} {N0 : Nat} {a1 : Value} {b : List Int} {N1 : Nat} (q : Int) : Tr Tryz.prog 20 #[a0,a1,.int .i64 q] [dv (rLn N0 (rI .i64)) a0 l,dv (rLn N1 (rI .i64)) a1 b] [] (fun c : Value × (Value × Value × Value) => .tuple #[vFunc ((lawMade4 l b q).1) c.1,vInput ((lawMade4 l b q).2) c.2]) (fun c => [da rFunc (vFunc ((lawMade4 l b q).1) c.1) ((lawMade4 l b q).1),da rInput (vInput ((lawMade4 l b q).2) c.2) ((lawMade4 l b q).2)]) (fun _ _ => []) := by
 refine jenter (args := [a0,a1,.int .i64 q]) Tryz.func20 rfl rfl rfl fun w0 X => ?_
 refine jq (jr (jalc J49 Z fun g6 => jalc J31 Z fun g7 => jn (jx (jq (jr (jm Z (jm Z (jdq d0 fun q1 w1 => js (jln U22 d0 Z) ?_))))))))
 refine js (jmin Z Z) (js (jshi (hi := (Int.toNat (min (↑(List.length l)) 200))) U22 Z3 d0 Z Z (by omega) (by omega)) (jdq (dhi d0 (Int.toNat (min (↑(List.length l)) 200)) (by omega) (by omega)) fun q2 w2 => jcs E31 Z Z r3made_ct (dc (dhi d0 (Int.toNat (min (↑(List.length l)) 200)) (by omega) (by omega)) dn) kn fun c15 => jalc J49 Z fun g8 => jdq (rFunc.cB d0) fun q4 w4 => jsta k0 Z49 Z Z Z ⟨Z,w4.one,trivial⟩ (saf Z) (jn (jx (jq (jr (jm Z ?_)))))))
 refine jm Z (jdq d2 fun q5 w5 => js (jln U22 d2 Z) (js (jmin Z Z) (js (jshi (hi := (Int.toNat (min (↑(List.length b)) 60))) U22 Z3 d2 Z Z (by omega) (by omega)) (jdq (dhi d2 (Int.toNat (min (↑(List.length b)) 60)) (by omega) (by omega)) fun q6 w6 => jcs3 E34 Z Z r3input_ct (dc (dhi d2 (Int.toNat (min (↑(List.length b)) 60)) (by omega) (by omega)) dn) kn fun c21a c21b c21c => jalc J31 Z fun g9 => jdq (rInput.c_Args d0) fun q8 w8 => jdq (rInput.c_Mem d0) fun q9 w9 => jdq (rInput.c_Answers d0) fun q10 w10 => jsta k0 Z31 Z Z Z ⟨w8.one,w9.one,w10.one,Z,trivial⟩ (saf Z) ?_))))
 refine jn (jx (jq (jr (jm Z (js (jmax Z Z) (js (jmin Z Z) (js (jf F31_3 Z) (jst k0 Z3 Z Z Z s3 (jn (jx (jq ?_)))))))))))
 refine jany true (.a 0 (.a 1 (.o 2 (.o 3 .e)))) Mixed (by kernel_rfl) (kd kn) fun F11 => jy Z (jla k1 A49 Z49 Z Z Z) (jy Z (jla k0 A31 Z31 Z Z Z) (jyo Z (jsta k3 Z49 Z Z Z ⟨Z,w4.one,trivial⟩ (saf Z) (jyn d0 (kc k1 (kc k1 kn)) (jyo Z (jsta k3 Z31 Z Z Z ⟨w8.one,w9.one,w10.one,Z,trivial⟩ (saf Z) (jyz d0 (jyd (jx (jrt ?_))))))))))
 have hm : lawMade4 l b q = (made3 (List.take (Int.toNat (min (((List.length l : Nat) : Int)) 200)) l),⟨(input3 (List.take (Int.toNat (min (((List.length b : Nat) : Int)) 60)) b)).Args,(input3 (List.take (Int.toNat (min (((List.length b : Nat) : Int)) 60)) b)).Mem,(input3 (List.take (Int.toNat (min (((List.length b : Nat) : Int)) 60)) b)).Answers,min (max q (-1)) 500⟩) := (by rw [← take_min l 200 200 rfl,← take_min b 60 60 rfl]; rfl)
 exact jrc2 Z Z Z k1 k0 A49 Z49 A31 Z31 (c15,(c21a,c21b,c21c)) (by rw [hm]; rfl) (by rw [hm]; exact (dc d3 (dc (rInput.M (m := ⟨(input3 (List.take (Int.toNat (min (↑(List.length b)) 60)) b)).Args,(input3 (List.take (Int.toNat (min (↑(List.length b)) 60)) b)).Mem,(input3 (List.take (Int.toNat (min (↑(List.length b)) 60)) b)).Answers,min (max q (-1)) 500⟩) (c := (c21a,c21b,c21c)) (rInput.c_Args (m := input3 (List.take (Int.toNat (min (↑(List.length b)) 60)) b)) (c := (c21a,c21b,c21c)) d2) (rInput.c_Mem (m := input3 (List.take (Int.toNat (min (↑(List.length b)) 60)) b)) (c := (c21a,c21b,c21c)) d2) (rInput.c_Answers (m := input3 (List.take (Int.toNat (min (↑(List.length b)) 60)) b)) (c := (c21a,c21b,c21c)) d2) (wp (IntWalk.i64_in (min (max q (-1)) 500) (by omega)))) dn))) (fun _ _ => kn)
abbrev U71 := @Tryz.underlying71
abbrev U72 := @Tryz.underlying72
theorem E19 : Ent Tryz.prog 19 := ⟨_,Tryz.func19,by kernel_rfl,by kernel_rfl⟩
theorem E20 : Ent Tryz.prog 20 := ⟨_,Tryz.func20,by kernel_rfl,by kernel_rfl⟩
theorem E22 : Ent Tryz.prog 22 := ⟨_,Tryz.func22,by kernel_rfl,by kernel_rfl⟩
theorem O71 : One Tryz.prog 71 := ⟨_,Tryz.underlying71,rfl⟩
theorem Z71 : Sz Tryz.prog 71 1 := by unfold Sz; kernel_rfl
def GrS (b s : RSt) : Prop := s.st ≤ b.st ∧ b.me.length = s.me.length ∧ ∃ t,b.cl = s.cl ++ t
theorem GrS.rf {s : RSt} : GrS s s := ⟨Int.le_refl _,rfl,[],(List.append_nil _).symm⟩
theorem GrS.tr {a b c : RSt} (h : GrS a b) (h2 : GrS b c) : GrS a c := by
 obtain ⟨h3,h4,t,h5⟩ := h
 obtain ⟨h6,h7,u,h8⟩ := h2
 exact ⟨by omega,by omega,u ++ t,by rw [h5,h8,List.append_assoc]⟩
theorem stS_le (en st N : Int) : st ≤ stS en st N := by unfold stS; split <;> omega
theorem GrS.step {N : Int} {s : RSt} : GrS (stepF N s) s := ⟨stS_le _ _ _,rfl,[],(List.append_nil _).symm⟩
theorem GrS.term {t : D.Term} {s : RSt} : GrS (termF t s) s := ⟨Int.le_refl _,rfl,[],(List.append_nil _).symm⟩
theorem GrS.phis {fr : Int} {l : List D.Phi} {s : RSt} : GrS (phisF fr l s) s := ⟨Int.le_refl _,rfl,[],(List.append_nil _).symm⟩
theorem GrS.ins {i : D.Ins} {s : RSt} : GrS (insF i s) s := by
 refine ⟨Int.le_refl _,inzM_len _ _ _,?_⟩
 show ∃ t,inzC i s.V s.cl = s.cl ++ t
 unfold inzC; split
 · exact ⟨_,rfl⟩
 · exact ⟨[],(List.append_nil _).symm⟩
theorem lis_gr {N : Int} : ∀ (l : List D.Ins) (s : RSt),GrS (lisF N l s).1 s
 | [],s => .rf
 | i :: l,s => by
   rw [lisF]; split
   · exact (lis_gr l _).tr (GrS.ins.tr .step)
   · exact .step
theorem blk_gr {bs : List D.Block} {N : Int} : ∀ (k : Nat) (a fr : Int) (s : RSt),GrS (blocksF bs N k a fr s) s
 | 0,_,_,s => .rf
 | k + 1,a,fr,s => by
   have h1 : GrS (lisF N (ix bs (Int.toNat a)).Ins (phisF fr (ix bs (Int.toNat a)).Phis s)).1 s := (lis_gr _ _).tr .phis
   rw [blocksF]
   split
   · split
     · split
       · exact (blk_gr k _ _ _).tr (GrS.term.tr (GrS.step.tr h1))
       · exact GrS.term.tr (GrS.step.tr h1)
     · exact GrS.step.tr h1
   · exact h1
theorem blk_gr1 {bs : List D.Block} {N a fr : Int} {k : Nat} {s : RSt} : GrS (blocksF bs N (k + 1) a fr s) (lisF N (ix bs (Int.toNat a)).Ins (phisF fr (ix bs (Int.toNat a)).Phis s)).1 := by
 rw [blocksF]
 split
 · split
   · split
     · exact (blk_gr k _ _ _).tr (GrS.term.tr .step)
     · exact GrS.term.tr .step
   · exact .step
 · exact .rf
theorem ok_t {N : Int} {s : RSt} (h : s.en = 0) (h2 : s.st < N) : stepOk N s = true ∧ stepF N s = { s with st := s.st + 1 } := by
 have e1 : stE s.en s.st N = 0 := by unfold stE; rw [if_neg (by omega)]; exact h
 refine ⟨by unfold stepOk stB; rw [e1]; rfl,?_⟩
 have e2 : stV s.en s.va s.st N = s.va := by unfold stV; rw [if_neg (by omega)]
 have e3 : stS s.en s.st N = s.st + 1 := by unfold stS; rw [if_pos e1]
 unfold stepF; rw [e1,e2,e3,← h]
theorem ok_f {N : Int} {s : RSt} (h : s.en = 0) (h2 : N ≤ s.st) : stepOk N s = false ∧ stepF N s = { s with en := 3,va := 0 } := by
 have e1 : stE s.en s.st N = 3 := by unfold stE; rw [if_pos ⟨h,h2⟩]
 refine ⟨by unfold stepOk stB; rw [e1]; rfl,?_⟩
 have e2 : stV s.en s.va s.st N = 0 := by unfold stV; rw [if_pos ⟨h,h2⟩]
 have e3 : stS s.en s.st N = s.st := by unfold stS; rw [if_neg (by omega)]
 unfold stepF; rw [e1,e2,e3]
theorem ok_n {N : Int} {s : RSt} (h : s.en ≠ 0) : stepOk N s = false ∧ stepF N s = s := by
 have e1 : stE s.en s.st N = s.en := by unfold stE; rw [if_neg (fun h2 => h h2.1)]
 refine ⟨by unfold stepOk stB; rw [e1]; exact decide_eq_false h,?_⟩
 have e2 : stV s.en s.va s.st N = s.va := by unfold stV; rw [if_neg (fun h2 => h h2.1)]
 have e3 : stS s.en s.st N = s.st := by unfold stS; rw [if_neg (by omega)]
 unfold stepF; rw [e1,e2,e3]
def PreS (N : Int) (a b : RSt) : Prop := (a.en ≠ 3 ∧ a.st ≤ N ∧ b = a) ∨ (a.en = 3 ∧ a.va = 0 ∧ a.st = N ∧ GrS b a)
theorem insF_en {i : D.Ins} {s : RSt} (h : s.en = 0) : (insF i s).en ≠ 3 := by
 show inzE i s.V s.me s.en ≠ 3
 unfold inzE; split <;> omega
theorem lis_pre {N N' : Int} (hN : N ≤ N') : ∀ (l : List D.Ins) (s : RSt),s.en ≠ 3 → s.st ≤ N → (lisF N l s).1.en ≠ 3 ∧ (lisF N l s).1.st ≤ N ∧ lisF N' l s = lisF N l s ∨ (lisF N l s).2 = false ∧ (lisF N l s).1.en = 3 ∧ (lisF N l s).1.va = 0 ∧ (lisF N l s).1.st = N ∧ GrS (lisF N' l s).1 (lisF N l s).1
 | [],s,h,h2 => .inl ⟨h,h2,rfl⟩
 | i :: l,s,h,h2 => by
   by_cases h3 : s.en = 0
   · by_cases h4 : s.st < N
     · have a := ok_t h3 h4
       have b := ok_t (N := N') h3 (by omega)
       rw [lisF,lisF,if_pos a.1,if_pos b.1,a.2,b.2]
       exact lis_pre hN l _ (insF_en (s := { s with st := s.st + 1 }) h3) (by show s.st + 1 ≤ N; omega)
     · have a := ok_f (N := N) h3 (by omega)
       have e : lisF N (i :: l) s = ({ s with en := 3,va := 0 },false) := by rw [lisF,if_neg (by rw [a.1]; decide),a.2]
       rw [e]
       exact .inr ⟨rfl,rfl,rfl,by show s.st = N; omega,lis_gr _ s⟩
   · have a := ok_n (N := N) h3
     have b := ok_n (N := N') h3
     rw [lisF,lisF,if_neg (by rw [a.1]; decide),if_neg (by rw [b.1]; decide),a.2,b.2]
     exact .inl ⟨h,h2,rfl⟩
theorem term_en {t : D.Term} {s : RSt} (h : s.en ≠ 3) : (termF t s).en ≠ 3 := by
 show termE t s.en ≠ 3
 unfold termE; split
 · exact h
 · split <;> decide
theorem blk_pre {bs : List D.Block} {N N' : Int} (hN : N ≤ N') : ∀ (k k' : Nat) (a fr : Int) (s : RSt),N - s.st < k → N' - s.st < k' → s.st ≤ N → s.en ≠ 3 → PreS N (blocksF bs N k a fr s) (blocksF bs N' k' a fr s)
 | 0,_,_,_,_,h,_,h2,_ => by omega
 | k + 1,0,_,_,_,_,h,h2,_ => by omega
 | k + 1,k' + 1,a,fr,s,h,h',hs,he => by
   have hg : GrS (blocksF bs N' (k' + 1) a fr s) _ := blk_gr1
   rcases lis_pre hN (ix bs (Int.toNat a)).Ins (phisF fr (ix bs (Int.toNat a)).Phis s) he hs with ⟨h1,h2,h3⟩ | ⟨h1,h2,h3,h4,h5⟩
   · have hst := (lis_gr (N := N) (ix bs (Int.toNat a)).Ins (phisF fr (ix bs (Int.toNat a)).Phis s)).1
     rw [h3] at hg
     rw [blocksF,blocksF,h3]
     rw [blocksF,h3] at hg
     generalize lisF N (ix bs (Int.toNat a)).Ins (phisF fr (ix bs (Int.toNat a)).Phis s) = r at *
     have hst : s.st ≤ r.1.st := hst
     cases h6 : r.2 with
     | false => exact .inl ⟨by simpa using h1,by simpa using h2,by simp⟩
     | true =>
       rw [h6,if_pos rfl] at hg
       rw [if_pos rfl,if_pos rfl]
       by_cases h7 : r.1.en = 0
       · by_cases h8 : r.1.st < N
         · have u := ok_t h7 h8
           have v := ok_t (N := N') h7 (by omega)
           rw [if_pos u.1,if_pos v.1,u.2,v.2]
           split
           · exact blk_pre hN k k' _ _ _ (by show N - (r.1.st + 1) < k; omega) (by show N' - (r.1.st + 1) < k'; omega) (by show r.1.st + 1 ≤ N; omega) (by omega)
           · exact .inl ⟨term_en h1,by show r.1.st + 1 ≤ N; omega,rfl⟩
         · have u := ok_f (N := N) h7 (by omega)
           rw [if_neg (show ¬ stepOk N r.1 = true by rw [u.1]; decide),u.2]
           exact .inr ⟨rfl,rfl,by show r.1.st = N; omega,hg⟩
       · have u := ok_n (N := N) h7
         have v := ok_n (N := N') h7
         rw [if_neg (show ¬ stepOk N r.1 = true by rw [u.1]; decide),if_neg (show ¬ stepOk N' r.1 = true by rw [v.1]; decide),u.2,v.2]
         exact .inl ⟨h1,h2,rfl⟩
   · have e : blocksF bs N (k + 1) a fr s = (lisF N (ix bs (Int.toNat a)).Ins (phisF fr (ix bs (Int.toNat a)).Phis s)).1 := by rw [blocksF,if_neg (by rw [h1]; decide)]
     rw [e]
     exact .inr ⟨h2,h3,h4,hg.tr h5⟩
def GrO (b : D.Outcome) (me : List Int) (cl : List D.Event) (s : Int) : Prop := s ≤ b.Steps ∧ b.Mem.length = me.length ∧ ∃ t,b.Calls = cl ++ t
def PreO (N : Int) (a b : D.Outcome) : Prop := (a.End ≠ 3 ∧ b = a) ∨ (a.End = 3 ∧ a.Steps = N ∧ a.Val = 0 ∧ GrO b a.Mem a.Calls N)
theorem run_pre (f : D.Func) (i : D.Input) {N N' : Int} (h0 : 0 ≤ N) (hN : N ≤ N') : PreO N (runF f { i with Steps := N }) (runF f { i with Steps := N' }) := by
 unfold runF
 rcases blk_pre (bs := f.Blocks) hN (Int.toNat N + 1) (Int.toNat N' + 1) 0 (-1) (startF f i) (by show N - 0 < _; omega) (by show N' - 0 < _; omega) h0 (by show (0 : Int) ≠ 3; decide) with ⟨h1,h2,h3⟩ | ⟨h1,h2,h3,h4,h5,h6⟩
 · exact .inl ⟨h1,congrArg outF h3⟩
 · exact .inr ⟨h1,h3,h2,by rw [← h3]; exact h4,h5,h6⟩
theorem u16m {n m : Int} (h : IntKind.u16.wrap n = n) (hm : 0 < m ∧ m ≤ 1000) : 0 ≤ IntKind.i64.wrap (Int.tmod n m) ∧ IntKind.i64.wrap (Int.tmod n m) < m := by
 rw [IntKind.wrap_u16] at h
 rw [Int.tmod_eq_emod_of_nonneg (by omega),IntKind.wrap_i64]
 have := Int.emod_nonneg n (show m ≠ 0 by omega)
 have := Int.emod_lt_of_pos n hm.1
 omega
theorem steps_end {N : Int} {a b : D.Outcome} (h : PreO N a b) (h1 : ¬ a.End = 3) : alikeO a b = true := by
 rcases h with h | h
 · rw [h.2]; exact alike_refl _
 · exact absurd h.1 h1
theorem steps_no {N : Int} {a b : D.Outcome} (h : PreO N a b) (h1 : a.End = 3) (h2 : (((¬ a.Steps = N ∨ b.Steps < a.Steps) ∨ (b.Calls.length : Int) < (a.Calls.length : Int)) ∨ ¬ a.Val = 0) ∨ ¬ (a.Mem.length : Int) = (b.Mem.length : Int)) : False := by
 rcases h with h | ⟨_,h3,h4,h5,h6,t,h7⟩
 · exact h.1 h1
 · rw [h7] at h2; simp at h2; omega
theorem steps_ix {N : Int} {a b : D.Outcome} (h : PreO N a b) (h1 : a.End = 3) {k : Nat} (hk : k < a.Calls.length) : ix b.Calls k = ix a.Calls k := by
 rcases h with h | ⟨_,h3,h4,h5,h6,t,h7⟩
 · exact absurd h1 h.1
 · rw [h7,ix_app hk]
theorem made4_good (l b : List Int) (q : Int) : GoodF (lawMade4 l b q).1 := good_made3 _
theorem made4_steps (l b : List Int) {q : Int} (h : 0 ≤ q ∧ q ≤ 500) : (lawMade4 l b q).2.Steps = q := by show min (max q (-1)) 500 = q; omega
theorem steps_ev {N : Int} {a b : D.Outcome} (h : PreO N a b) (h1 : a.End = 3) {k : Nat} (hk : k < a.Calls.length) (h2 : ¬ (ix a.Calls k).Callee = (ix b.Calls k).Callee ∨ rowsM (ix a.Calls k).Args (ix b.Calls k).Args = false) : False := by
 rw [steps_ix h h1 hk] at h2
 rcases h2 with h2 | h2
 · exact h2 rfl
 · simp [rowsM] at h2
attribute [local irreducible] runF lawMade4
set_option maxRecDepth 20000 in
set_option maxHeartbeats 1000000 in
theorem interpSteps_ct {a0 : Value} {l : List Int} {N0 : Nat} {a1 : Value} {b : List Int} {N1 : Nat} (n0 n1 : Int) (wn0 : IntKind.u16.wrap n0 = n0) (wn1 : IntKind.u16.wrap n1 = n1) : Tv Tryz.prog 6 #[a0,a1,.agg #[.int .u16 n0,.int .u16 n1]] [dv (rLn N0 (rI .i64)) a0 l,dv (rLn N1 (rI .i64)) a1 b] [] (.bool true) := by
 refine jenter (args := [a0,a1,.agg #[.int .u16 n0,.int .u16 n1]]) Tryz.func6 rfl rfl rfl fun w0 X => ?_
 have hr0 := u16m (m := 301) wn0 (by decide)
 have hr1 := u16m (m := 200) wn1 (by decide)
 have hS := made4_steps l b (q := (IntKind.i64.wrap (Int.tmod n0 301))) (by omega)
 have hP := run_pre (lawMade4 l b (IntKind.i64.wrap (Int.tmod n0 301))).1 (lawMade4 l b (IntKind.i64.wrap (Int.tmod n0 301))).2 (N := (lawMade4 l b (IntKind.i64.wrap (Int.tmod n0 301))).2.Steps) (N' := (lawMade4 l b (IntKind.i64.wrap (Int.tmod n0 301))).2.Steps + IntKind.i64.wrap (Int.tmod n1 200)) (by omega) (by omega)
 have hG := made4_good l b (IntKind.i64.wrap (Int.tmod n0 301))
 refine jq (jr (jbox Z Z fun g5 => ja Z (jn (jx (jq (jr (jcv E19 Z Z shown4_ct dn kn (ja Z (jn (jx ?_))))))))))
 refine jq (jr (jm Z (jm Z (js (jixa (i := 0) U72 Z71 Z Z Z (by omega)) (js (jl k0 O71 Z Z) (js (jrem Z Z (by decide)) (js (jco U71 U3 Z Z) (jdq d0 fun q1 w1 => jdq d1 fun q2 w2 => jc E20 Z Z (lawMade4_ct (IntKind.i64.wrap (Int.tmod n0 301))) (dc d0 (dc d1 dn)) kn (fun _ => p2) (fun _ => p0) fun c22 => ?_))))))))
 generalize hma : lawMade4 l b (IntKind.i64.wrap (Int.tmod n0 301)) = ma at hS hP hG ⊢
 refine jm Z (js (jex' Z Z) (js (jex' Z Z) (jalc J49 Z fun g8 => jalc J31 Z fun g9 => jdq (rFunc.cB d0) fun q5 w5 => jsta k1 Z49 Z Z Z ⟨Z,w5.one,trivial⟩ (saf Z) (jdq (rInput.c_Args d1) fun q6 w6 => jdq (rInput.c_Mem d1) fun q7 w7 => jdq (rInput.c_Answers d1) fun q8 w8 => jsta k1 Z31 Z Z Z ⟨w6.one,w7.one,w8.one,Z,trivial⟩ (saf Z) (jn ?_)))))
 refine jx (jq (jr (js (jla k1 A49 Z49 Z Z Z) (js (jla k0 A31 Z31 Z Z Z) (jcs2 E23 Z Z (rRun_ct hG (by omega)) (dc d0 (dc d1 dn)) kn fun c27a c27b => ?_)))))
 generalize hoa : runF ma.1 ma.2 = oa at hP ⊢
 refine jalc J37 Z fun g10 => jdq (rOutcome.c_Mem d0) fun q10 w10 => jdq (rOutcome.c_Calls d0) fun q11 w11 => jsta k0 Z37 Z Z Z ⟨Z,Z,w10.one,w11.one,Z,trivial⟩ (saf Z) (jn (jx (jq (jr (js (jla k1 A31 Z31 Z Z Z) (jalc J31 Z fun g11 => jsta k0 Z31 Z Z Z ⟨w6.one,w7.one,w8.one,Z,trivial⟩ (saf Z) (jn ?_)))))))
 refine jx (jq (jr (js (jf F31_3 Z) (js (jl k2 O3 Z Z) (js (jixa (i := 1) U72 Z71 Z Z Z (by omega)) (js (jl k4 O71 Z Z) (js (jrem Z Z (by decide)) (js (jco U71 U3 Z Z) (js (jadd Z Z (by omega)) (js (jf F31_3 Z) (jst k0 Z3 Z Z Z s3 ?_)))))))))))
 refine jn (jx (jq (jr (js (jla k3 A49 Z49 Z Z Z) (js (jla k0 A31 Z31 Z Z Z) (jcs2 E23 Z Z (rRun_ct (a1a := c22.2.1) (a1b := c22.2.2.1) (a1c := c22.2.2.2) (i := ⟨(ma.2).Args,(ma.2).Mem,(ma.2).Answers,((ma.2).Steps) + (IntKind.i64.wrap (Int.tmod n1 200))⟩) hG (by dsimp only; omega)) (dc d1 (dc (rInput.M (m := ⟨(ma.2).Args,(ma.2).Mem,(ma.2).Answers,((ma.2).Steps) + (IntKind.i64.wrap (Int.tmod n1 200))⟩) (c := (c22.2.1,c22.2.2.1,c22.2.2.2)) (rInput.c_Args (m := ma.2) (c := c22.2) d2) (rInput.c_Mem (m := ma.2) (c := c22.2) d2) (rInput.c_Answers (m := ma.2) (c := c22.2) d2) (wp (IntWalk.i64_in (((ma.2).Steps) + (IntKind.i64.wrap (Int.tmod n1 200))) (by omega)))) dn)) kn fun c39a c39b => ?_))))))
 generalize hob : runF ma.1 (⟨(ma.2).Args,(ma.2).Mem,(ma.2).Answers,((ma.2).Steps) + (IntKind.i64.wrap (Int.tmod n1 200))⟩) = ob at hP ⊢
 refine jalc J37 Z fun g12 => jdq (rOutcome.c_Mem d0) fun q13 w13 => jdq (rOutcome.c_Calls d0) fun q14 w14 => jsta k0 Z37 Z Z Z ⟨Z,Z,w13.one,w14.one,Z,trivial⟩ (saf Z) (jn (jx (jq (jq (jr (js (jf F37_0 Z) (js (jl k2 O3 Z Z) (js (jneq Z Z) ?_))))))))
 refine jn (jx ?_)
 refine jif Z (fun hc1 => ?_) (fun hc1 => ?_)
 refine jq (jr (jm Z (jm Z (jk Z Z (.t _) (jla k2 A37 Z37 Z Z Z) (jk Z Z (.t _) (jla k0 A37 Z37 Z Z Z) (jgk Z Z (.t _) (jcv E22 Z Z rAlike_ct (dc d1 (dc d0 dn)) kn (js (jand Z Z) (ja Z (jn (jx ?_)))))))))))
 refine jrt (jtr ?_)
 exact jrB Z Z (by first | (rw [steps_end hP hc1]; rfl) | exact (steps_no hP hc1 hc2).elim | exact (steps_ev hP hc1 (by omega) hc4).elim | rfl)
 refine jsk (jx (jq (jq (jr (js (jf F37_4 Z) (js (jl k2 O3 Z Z) (js (jf F31_3 Z) (js (jl k3 O3 Z Z) (js (jneq Z Z) (jm Z (jg Z Z (.f _) (fun hg => jf F37_4 Z) ?_)))))))))))
 refine jg Z Z (.f _) (fun hg => jl k0 O3 (evg Z hg) Z) (jg Z Z (.f _) (fun hg => jf F37_4 Z) (jg Z Z (.f _) (fun hg => jl k2 O3 (evg Z hg) Z) (jg Z Z (.f _) (fun hg => jlss (evg Z hg) (evg Z hg)) (js (jor Z Z) (jm Z (jg Z Z (.f _) (fun hg => jf F37_3 Z) (jg Z Z (.f _) (fun hg => jl k0 O35 (evg Z hg) Z) (jg Z Z (.f _) (fun hg => jln U35 (rOutcome.c_Calls d0) (evg Z hg)) (jg Z Z (.f _) (fun hg => jf F37_3 Z) (jg Z Z (.f _) (fun hg => jl k2 O35 (evg Z hg) Z) (jg Z Z (.f _) (fun hg => jln U35 (rOutcome.c_Calls d1) (evg Z hg)) ?_)))))))))))
 refine jg Z Z (.f _) (fun hg => jlss (evg Z hg) (evg Z hg)) (js (jor Z Z) (jm Z (jg Z Z (.f _) (fun hg => jf F37_1 Z) (jg Z Z (.f _) (fun hg => jl k2 O21 (evg Z hg) Z) (jg Z Z (.f _) (fun hg => jneq (evg Z hg) Z) (js (jor Z Z) (jm Z (jg Z Z (.f _) (fun hg => jf F37_2 Z) (jg Z Z (.f _) (fun hg => jl k2 O29 (evg Z hg) Z) (jg Z Z (.f _) (fun hg => jln U29 (rOutcome.c_Mem d1) (evg Z hg)) (jg Z Z (.f _) (fun hg => jf F37_2 Z) ?_)))))))))))
 refine jg Z Z (.f _) (fun hg => jl k0 O29 (evg Z hg) Z) (jg Z Z (.f _) (fun hg => jln U29 (rOutcome.c_Mem d0) (evg Z hg)) (jg Z Z (.f _) (fun hg => jneq (evg Z hg) (evg Z hg)) (js (jor Z Z) (jn (jx ?_)))))
 refine jif Z (fun hc2 => ?_) (fun hc2 => ?_)
 refine jq (jr (ja Z (jn (jx (jrt (jtr ?_))))))
 exact jrB Z Z (by first | (rw [steps_end hP hc1]; rfl) | exact (steps_no hP hc1 hc2).elim | exact (steps_ev hP hc1 (by omega) hc4).elim | rfl)
 refine jsk (jx (jq (jq (jr (ja Z (jn (jx (jb ?_))))))))
 refine jlp (fun (k : Nat) => ⟨k ≤ oa.Calls.length,[da rOutcome (vOutcome ob (c39a,c39b)) ob,da rOutcome (vOutcome oa (c27a,c27b)) oa],[bx g12 37 [.int .i64 ob.End,.int .i32 ob.Val,c39a,c39b,.int .i64 ob.Steps],bx g10 37 [.int .i64 oa.End,.int .i32 oa.Val,c27a,c27b,.int .i64 oa.Steps]],[(7,.bool true),(10,.pointer (some ⟨g10,0,none⟩)),(12,.pointer (some ⟨g12,0,none⟩)),(13,.int .i64 (↑k))],oa.Calls.length - k⟩) 0 (by omega) (dc d0 (dc d1 dn)) (kc k0 (kc k1 kn)) ⟨Z,Z,Z,eqI (by omega),trivial⟩ ?_
 rintro k; dsimp only; rintro hk
 refine jq (jq (jr (jm Z (js (jf F37_3 Z) (js (jl k1 O35 Z Z) (js (jln U35 (rOutcome.c_Calls d1) Z) (js (jlss Z Z) (jn (jx ?_)))))))))
 refine jif Z (fun hc3 => ?_) (fun hc3 => ?_)
 refine jsk (jx (jq (jb (jq (jany false (.a 0 (.a 1 (.a 2 (.a 3 (.a 4 (.a 5 (.a 6 (.a 7 (.a 8 (.a 9 (.a 10 (.a 11 (.a 12 (.a 13 (.a 14 (.a 15 (.a 16 (.a 17 (.a 18 (.a 19 (.a 20 (.a 21 (.a 22 (.a 23 (.a 24 (.a 25 (.o 26 (.a 27 (.a 28 .e))))))))))))))))))))))))))))) Mixed (by kernel_rfl) (kd kn) fun F15 => jy Z (jf F37_3 Z) (jy Z (jl k1 O35 Z Z) (jy Z (jmv Z) (jy Z (jix U35 Z74 (rOutcome.c_Calls d1) Z Z Z (by omega)) (jy Z (jf F74_0 Z) (jy Z (jlI (rEvent.A_Callee (dix (rOutcome.c_Calls d1) k (by omega))) O21 Z) ?_))))))))))
 refine jy Z (jf F37_3 Z) (jy Z (jl k0 O35 Z Z) (jy Z (jmv Z) (jy Z (jix U35 Z74 (rOutcome.c_Calls d0) Z Z Z (by omega)) (jy Z (jf F74_0 Z) (jy Z (jlI (rEvent.A_Callee (dix (rOutcome.c_Calls d0) k (by omega))) O21 Z) (jy Z (jneq Z Z) (jy Z (jmv Z) (jyg Z Z Z (.f _) (fun hg => jf F37_3 Z) (jyg Z Z Z (.f _) (fun hg => jl k1 O35 (evg Z hg) Z) (jyg Z Z Z (.f _) (fun hg => jmv Z) (jyg Z Z Z (.f _) (fun hg => jix U35 Z74 (rOutcome.c_Calls d1) (evg Z hg) (evg Z hg) Z (by first | omega | (simp at hg; omega) | (simp only [List.length_set]; omega))) ?_)))))))))))
 refine jyg Z Z Z (.f _) (fun hg => jf F74_1 (evg Z hg)) (jyge (q := fun v => dv (rL (rI .i32)) v ((ix oa.Calls k).Args)) Z Z Z (.f _) (fun hg => xlV (rEvent.A_Args (dix (rOutcome.c_Calls d1) k (by first | omega | (simp at hg; omega) | (simp only [List.length_set]; omega)))) O29 Z (evg Z hg)) fun v110 => jyg Z Z Z (.f _) (fun hg => jf F37_3 Z) (jyg Z Z Z (.f _) (fun hg => jl k0 O35 (evg Z hg) Z) (jyg Z Z Z (.f _) (fun hg => jmv Z) (jyg Z Z Z (.f _) (fun hg => jix U35 Z74 (rOutcome.c_Calls d1) (evg Z hg) (evg Z hg) Z (by first | omega | (simp at hg; omega) | (simp only [List.length_set]; omega))) (jyg Z Z Z (.f _) (fun hg => jf F74_1 (evg Z hg)) (jyge (q := fun v => dv (rL (rI .i32)) v ((ix ob.Calls k).Args)) Z Z Z (.f _) (fun hg => xlV (rEvent.A_Args (dix (rOutcome.c_Calls d1) k (by first | omega | (simp at hg; omega) | (simp only [List.length_set]; omega)))) O29 Z (evg Z hg)) fun v116 => jyo Z (jgc Z Z (.f _) E15 Z (fun hg => evl2 (evg Z hg) (evg Z hg)) (fun hg => words_ct) (fun hg => (dc (d2.on hg) (dc (d1.on hg) dn))) kn p0 (jyn d0 (kd kn) (jyg Z Z Z (.f _) (fun hg => jnot (evg Z hg)) ?_)))))))))
 refine jy Z (jor Z Z) (jyd (jx ?_))
 refine jif Z (fun hc4 => ?_) (fun hc4 => ?_)
 refine jq (jr (ja Z (jn (jx (jrt (jbr (jtr (jtr (jbr (jtr ?_))))))))))
 exact jrB Z Z (by first | (rw [steps_end hP hc1]; rfl) | exact (steps_no hP hc1 hc2).elim | exact (steps_ev hP hc1 (by omega) hc4).elim | rfl)
 refine jsk (jbn (jx (jr (jm Z (js (jadd Z Z (by omega)) (ja Z (jn ?_)))))))
 exact jag (k + 1) (by omega) (dc d3 (dc d4 dn)) (kd kn) ⟨Z,Z,Z,eqI (by omega),trivial⟩
 refine jex (jtx (jtx (jbh (jx (jq (jr (jm Z (ja Z (jn (jx (jrt ?_)))))))))))
 exact jrB Z Z (by first | (rw [steps_end hP hc1]; rfl) | exact (steps_no hP hc1 hc2).elim | exact (steps_ev hP hc1 (by omega) hc4).elim | rfl)
end Go.Proofs.YtmfkkodnghambaaGreat
