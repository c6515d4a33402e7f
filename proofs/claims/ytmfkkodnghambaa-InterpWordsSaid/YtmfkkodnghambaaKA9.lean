/- Lemmas that the claim is made of. Conditions: each lemma names its own. -/
import Derived.Test.YtmfkkodnghambaaKA8
set_option linter.unusedSectionVars false
set_option linter.unusedSimpArgs false
set_option linter.unusedVariables false
namespace Go.Proofs.Ytmfkkodnghambaa
open Go.JE
def GrS (b s : RSt) : Prop := s.st ≤ b.st ∧ b.me.length = s.me.length ∧ ∃ t,b.cl = s.cl ++ t
theorem GrS.rf {s : RSt} : GrS s s := ⟨Int.le_refl _,rfl,[],(List.append_nil _).symm⟩
theorem GrS.tr {a b c : RSt} (h : GrS a b) (h2 : GrS b c) : GrS a c := by
 obtain ⟨h3,h4,t,h5⟩ := h
 obtain ⟨h6,h7,u,h8⟩ := h2
 exact ⟨by omega,by omega,u ++ t,by rw [h5,h8,List.append_assoc]⟩
theorem stS_le (en st N : Int) : st ≤ stS en st N := by unfold stS; split <;> omega
theorem GrS.step {N : Int} {s : RSt} : GrS (stepF N s) s := ⟨stS_le _ _ _,rfl,[],(List.append_nil _).symm⟩
theorem GrS.phis {fr : Int} {l : List D.Phi} {s : RSt} : GrS (phisF fr l s) s := ⟨Int.le_refl _,rfl,[],(List.append_nil _).symm⟩
theorem GrS.ins {i : D.Ins} {s : RSt} : GrS (insF i s) s := by
 refine ⟨Int.le_refl _,inzM_len _ _ _,?_⟩
 show ∃ t,inzC i s.V s.cl = s.cl ++ t
 unfold inzC; split
 · exact ⟨_,rfl⟩
 · exact ⟨[],(List.append_nil _).symm⟩
theorem ok_t {N : Int} {s : RSt} (h : s.en = 0) (h2 : s.st < N) : stepOk N s = true ∧ stepF N s = { s with st := s.st + 1 } := by
 have e1 : stE s.en s.st N = 0 := by unfold stE; rw [if_neg (by omega)]; exact h
 refine ⟨by unfold stepOk stB; rw [e1]; rfl,?_⟩
 have e2 : stV s.en s.va s.st N = s.va := by unfold stV; rw [if_neg (by omega)]
 have e3 : stS s.en s.st N = s.st + 1 := by unfold stS; rw [if_pos e1]
 unfold stepF; rw [e1,e2,e3,← h]
theorem ok_n {N : Int} {s : RSt} (h : s.en ≠ 0) : stepOk N s = false ∧ stepF N s = s := by
 have e1 : stE s.en s.st N = s.en := by unfold stE; rw [if_neg (fun h2 => h h2.1)]
 refine ⟨by unfold stepOk stB; rw [e1]; exact decide_eq_false h,?_⟩
 have e2 : stV s.en s.va s.st N = s.va := by unfold stV; rw [if_neg (fun h2 => h h2.1)]
 have e3 : stS s.en s.st N = s.st := by unfold stS; rw [if_neg (by omega)]
 unfold stepF; rw [e1,e2,e3]
section
variable {p : Int} {l : List D.Ins} {t : D.Term} {i : D.Input} {s' : RSt}
theorem run_trap (h : lisF i.Steps l (startF (one3 p l t) i) = (s',true)) (h2 : s'.en ≠ 0) : runF (one3 p l t) i = outF s' := by
 have := blk_step (bs := [⟨[],l,t⟩]) (a := 0) (fr := -1) (s := startF (one3 p l t) i) h (ok_n h2).1 (Nat.succ_pos (Int.toNat i.Steps))
 rw [(ok_n h2).2] at this
 exact congrArg outF this
theorem run_end (h : lisF i.Steps l (startF (one3 p l t) i) = (s',true)) (h2 : s'.en = 0) (h3 : s'.st < i.Steps) (hk : termE t 0 ≠ 0) : runF (one3 p l t) i = outF (termF t { s' with st := s'.st + 1 }) := by
 have h4 := ok_t h2 h3
 have := blk_end (bs := [⟨[],l,t⟩]) (a := 0) (fr := -1) (s := startF (one3 p l t) i) h h4.1 (by rw [h4.2]; show ¬ termE t s'.en = 0; rw [h2]; exact hk) (Nat.succ_pos (Int.toNat i.Steps))
 rw [h4.2] at this
 exact congrArg outF this
end
theorem lis_one {N : Int} {i : D.Ins} {l : List D.Ins} {s : RSt} (h : s.en = 0) (h2 : s.st < N) : lisF N (i :: l) s = lisF N l (insF i { s with st := s.st + 1 }) := by rw [lisF,if_pos (ok_t h h2).1,(ok_t h h2).2]
theorem ins_op {i : D.Ins} {s : RSt} (h : 2 ≤ i.Op ∧ i.Op ≤ 14) : insF i s = ⟨setV s.V i.Dst (doM i.Op (aI i s.V 0) (aI i s.V 1)).1,if (doM i.Op (aI i s.V 0) (aI i s.V 1)).2 = true then s.en else 2,if (doM i.Op (aI i s.V 0) (aI i s.V 1)).2 = true then s.va else -1,s.me,s.cl,s.st,s.an⟩ := by
 have h1 : ¬ i.Op = 1 := by omega
 have h2 : ¬ i.Op = 15 := by omega
 have h3 : ¬ i.Op = 16 := by omega
 have h4 : ¬ i.Op = 17 := by omega
 have h5 : ¬ i.Op = 18 := by omega
 have e : inzT i s.V s.me = if (doM i.Op (aI i s.V 0) (aI i s.V 1)).2 = true then 0 else -1 := by unfold inzT; rw [if_neg h2,if_neg h3,if_neg (by omega)]
 unfold insF inzV inzE inzX inzM inzC inzA
 rw [e,if_neg h1,if_neg h2,if_neg h3,if_neg h4,if_neg h5,if_neg h3,if_neg h4,if_neg h4]
 by_cases h6 : (doM i.Op (aI i s.V 0) (aI i s.V 1)).2 = true
 · simp only [if_pos h6,if_pos]
 · simp only [if_neg h6]; rw [if_neg (by decide),if_neg (by decide)]
theorem words_run {op a b : Int} (h : 2 ≤ op ∧ op ≤ 14) : runF (one3 2 [⟨op,2,0,[0,1],0⟩] (ret3 2)) ⟨[a,b],[],[],2⟩ = if (doM op a b).2 = true then ⟨1,(doM op a b).1,[],[],2⟩ else ⟨2,-1,[],[],1⟩ := by
 have hl : lisF 2 [⟨op,2,0,[0,1],0⟩] (startF (one3 2 [⟨op,2,0,[0,1],0⟩] (ret3 2)) ⟨[a,b],[],[],2⟩) = (insF ⟨op,2,0,[0,1],0⟩ ⟨argsV [a,b] 2,0,0,[],[],1,[]⟩,true) := by
   rw [lis_one rfl (show (0 : Int) < 2 by decide)]; rfl
 rw [ins_op (show 2 ≤ (⟨op,2,0,[0,1],0⟩ : D.Ins).Op ∧ _ from h)] at hl
 have e0 : (doM (⟨op,2,0,[0,1],0⟩ : D.Ins).Op (aI ⟨op,2,0,[0,1],0⟩ (argsV [a,b] 2) 0) (aI ⟨op,2,0,[0,1],0⟩ (argsV [a,b] 2) 1)) = doM op a b := rfl
 dsimp only at hl
 rw [show (doM op (aI ⟨op,2,0,[0,1],0⟩ (argsV [a,b] 2) 0) (aI ⟨op,2,0,[0,1],0⟩ (argsV [a,b] 2) 1)) = doM op a b from rfl] at hl
 generalize doM op a b = d at hl ⊢
 by_cases h6 : d.2 = true
 · rw [if_pos h6,if_pos h6] at hl
   rw [if_pos h6,run_end hl rfl (show (1 : Int) < 2 by decide) (by decide)]; rfl
 · rw [if_neg h6,if_neg h6] at hl
   rw [if_neg h6,run_trap hl (show (2 : Int) ≠ 0 by decide)]; rfl
theorem words_good {op : Int} (h : 2 ≤ op ∧ op ≤ 14) : GoodF (one3 2 [⟨op,2,0,[0,1],0⟩] (ret3 2)) := by
 have em : makes3 (⟨op,2,0,[0,1],0⟩ : D.Ins) = [2] := by unfold makes3; dsimp only; rw [if_neg (by omega),if_neg (by omega)]
 have eo : operM op = (2,2) := by unfold operM; rw [if_neg (by omega),if_neg (by omega),if_neg (by omega)]
 have ef : ([⟨op,2,0,[0,1],0⟩] : List D.Ins).flatMap makes3 = [2] := by simp [em]
 refine good_one (by decide) (show 1 ≤ 4000 by decide) (by rw [ef]; decide) (by rw [ef]; decide) (fun i hi => ?_) (by decide) (fun k hk v hv => ?_) (fun v hv => ?_)
 · simp at hi; subst hi
   dsimp only
   rw [eo]; exact ⟨by omega,by decide⟩
 · have e : k = 0 := by have : k < 1 := hk; omega
   subst e
   have : v ∈ [(0 : Int),1] := hv
   simp at this; exact .inl (by omega)
 · rw [ef]; exact .inr hv
theorem wide_good {v : Int} (h : v = 2 ∨ v = 3) : GoodF (one3 2 [⟨18,2,3,[0,1],0⟩] (ret3 v)) := by
 refine good_one (by decide) (by decide) (by decide) (by decide) (by decide) ⟨.inl ⟨rfl,show 1 ≤ 1 by decide⟩,rfl⟩ (fun k hk v hv => ?_) (fun w hw => ?_)
 · have e : k = 0 := by have : k < 1 := hk; omega
   subst e
   have : v ∈ [(0 : Int),1] := hv
   simp at this; exact .inl (by omega)
 · have hw : w ∈ [v] := hw
   simp at hw; subst hw
   rcases h with rfl | rfl <;> exact .inr (by decide)
theorem wide_run2 {a b : Int} : runF (one3 2 [⟨18,2,3,[0,1],0⟩] (ret3 2)) ⟨[a,b],[],[],2⟩ = ⟨1,(wideM a b).1,[],[],2⟩ := by
 have hl : lisF 2 [⟨18,2,3,[0,1],0⟩] (startF (one3 2 [⟨18,2,3,[0,1],0⟩] (ret3 2)) ⟨[a,b],[],[],2⟩) = (⟨setV (setV (argsV [a,b] 2) 2 (wideM a b).1) 3 (wideM a b).2,0,0,[],[],1,[]⟩,true) := by
   rw [lis_one rfl (show (0 : Int) < 2 by decide)]; rfl
 rw [run_end hl rfl (show (1 : Int) < 2 by decide) (by decide)]; rfl
theorem wide_run3 {a b c : Int} : runF (one3 2 [⟨18,2,3,[0,1],0⟩] (ret3 3)) ⟨[a,b,c],[],[],9⟩ = ⟨1,(wideM a b).2,[],[],2⟩ := by
 have hl : lisF 9 [⟨18,2,3,[0,1],0⟩] (startF (one3 2 [⟨18,2,3,[0,1],0⟩] (ret3 3)) ⟨[a,b,c],[],[],9⟩) = (⟨setV (setV (argsV [a,b] 2) 2 (wideM a b).1) 3 (wideM a b).2,0,0,[],[],1,[]⟩,true) := by
   rw [lis_one rfl (show (0 : Int) < 9 by decide)]; rfl
 rw [run_end hl rfl (show (1 : Int) < 9 by decide) (by decide)]; rfl
theorem words_no {d : Int × Bool} {o : D.Outcome} (h : o = if d.2 = true then ⟨1,d.1,[],[],2⟩ else ⟨2,-1,[],[],1⟩) (hc : d.2 = true ∧ ((¬ o.End = 1 ∨ ¬ o.Val = d.1) ∨ ¬ o.Steps = 2) ∨ d.2 = false ∧ ((¬ o.End = 2 ∨ ¬ o.Val = -1) ∨ ¬ o.Steps = 1)) : False := by
 subst h
 cases h9 : d.2 <;> simp [h9] at hc
theorem E10 : Ent Try.prog 10 := ⟨_,Try.func10,by kernel_rfl,by kernel_rfl⟩
attribute [local irreducible] runF doM wideM
set_option maxRecDepth 8000 in
theorem words_ct4 (a : Int) (b : Int) (ww0 : IntKind.i32.wrap a = a) (ww1 : IntKind.i32.wrap b = b) : Tv Try.prog 3 #[.int .i32 a,.int .i32 b] [] [] (.bool true) := by
 refine jenter (args := [.int .i32 a,.int .i32 b]) Try.func3 rfl rfl rfl fun w0 X => ?_
 refine jq (jr (ja Z (jn (jx (jq (jr (jcv E10 Z Z shown4_ct dn kn (ja Z (jn (jx (jq ?_)))))))))))
 refine jq (jr (ja Z (jn (jx (jb ?_)))))
 refine jlp (fun (k : Nat) => ⟨2 ≤ k ∧ k ≤ 15,[],[],[(0,.int .i32 a),(1,.int .i32 b),(5,.bool true),(6,.int .i64 (↑k))],15 - k⟩) 2 ⟨by omega,by omega⟩ dn kn ⟨Z,Z,Z,eqI (by omega),trivial⟩ ?_
 rintro k; dsimp only; rintro ⟨hk2,hk⟩
 refine jq (jq (jr (jm Z (js (jleq Z Z) (jn (jx ?_))))))
 refine jif Z (fun hc1 => ?_) (fun hc1 => ?_)
 refine jsk (jx (jq (jb (jq (jr (jm Z (jlit (r := (rI .i64)) (l := [0,1]) U32 I3 (by decide) Z Z Z (lV Z Z (wI (wl 0)) (lV Z Z (wI (wl 1)) ln)) fun g21 => js (jbu (v := .agg #[.int .i64 (↑k),.int .i64 2,.int .i64 0,(.slice (some ⟨g21,0,none⟩) 2 2),.int .i32 0]) Z (fun _ => by kernel_rfl)) (jfz k0 (by (try simp) <;> omega) (jlit (r := rIns) (l := [⟨↑k,2,0,[0,1],0⟩]) U35 I34 (by decide) Z Z Z (lA (rIns.M (m := ⟨↑k,2,0,[0,1],0⟩) (c := (.slice (some ⟨g21,0,none⟩) 2 2)) d0 (wp (IntWalk.i64_in ↑k (by omega))) (wl 2) (wl 0) (wl 0)) ln) fun g23 => jcs2 E13 Z Z (ret4_ct 2 (by decide)) dn kn fun c24a c24b => ?_)))))))))
 refine jfz k0 (by (try simp) <;> omega) (jdq d0 fun q4 w4 => jcs E12 Z Z (one4_ct 2 (by decide)) (dc d0 (dc d1 dn)) kn fun c25 => jm Z (jm Z (jlit (r := (rI .i32)) (l := [a,b]) U23 I21 (by decide) Z Z Z (lV Z Z (wI (wp ww0)) (lV Z Z (wI (wp ww1)) ln)) fun g28 => js (jbu (v := .agg #[(.slice (some ⟨g28,0,none⟩) 2 2),.slice none 0 0,.slice none 0 0,.int .i64 2]) Z (fun _ => by kernel_rfl)) (jfz k0 (by (try simp) <;> omega) (jcs2 E11 Z Z (rRun_ct (i := ⟨[a,b],[],[],2⟩) (words_good (op := ↑k) (by omega)) (show (2 : Int) ≤ 1000000 by decide)) (dc d1 (dc (rInput.M (m := ⟨[a,b],[],[],2⟩) (c := ((.slice (some ⟨g28,0,none⟩) 2 2),.slice none 0 0,.slice none 0 0)) d0 wN wN (wl 2)) dn)) kn fun c30a c30b => ?_)))))
 generalize hoa : runF (one3 2 ([⟨↑k,2,0,[0,1],0⟩]) (ret3 2)) (⟨[a,b],[],[],2⟩) = oa at ⊢
 have hO := hoa.symm.trans (words_run (op := ↑k) (a := a) (b := b) (by omega))
 refine jalc J26 Z fun g7 => jdq (rOutcome.c_Mem d0) fun q8 w8 => jdq (rOutcome.c_Calls d0) fun q9 w9 => jsta k0 Z26 Z Z Z ⟨Z,Z,w8.one,w9.one,Z,trivial⟩ (saf Z) (jn (jx (jq (jr (jm Z (jm Z (jm Z (jcv E14 Z Z (wDo_ct ↑k a b) dn kn ?_))))))))
 refine jm Z (js (jex' Z Z) (js (jex' Z Z) (ja Z (ja Z (jn (jx (jq (jr (jm Z (jm Z (jg Z Z (.t _) (fun hg => jf F26_0 Z) ?_)))))))))))
 refine jg Z Z (.t _) (fun hg => jl k0 O3 (evg Z hg) Z) (jg Z Z (.t _) (fun hg => jneq (evg Z hg) Z) (jg Z Z (.t _) (fun hg => jmv (evg Z hg)) (jg Z Z (.gf _ _) (fun hg => jf F26_1 Z) (jg Z Z (.gf _ _) (fun hg => jl k0 O21 (evg Z hg) Z) (jg Z Z (.gf _ _) (fun hg => jmv Z) (jg Z Z (.gf _ _) (fun hg => jneq (evg Z hg) (evg Z hg)) (jg Z Z (.t _) (fun hg => jor2 hg Z Z) (jg Z Z (.t _) (fun hg => jmv (evg Z hg)) (jg Z Z (.gf _ _) (fun hg => jf F26_4 Z) (jg Z Z (.gf _ _) (fun hg => jl k0 O3 (evg Z hg) Z) (jg Z Z (.gf _ _) (fun hg => jneq (evg Z hg) Z) ?_)))))))))))
 refine jg Z Z (.t _) (fun hg => jor2 hg Z Z) (js (jand Z Z) (jm Z (jg Z Z (.f _) (fun hg => jmv Z) (jg Z Z (.f _) (fun hg => jnot (evg Z hg)) (jg Z Z (.f _) (fun hg => jmv (evg Z hg)) (jg Z Z (.gt _ _) (fun hg => jf F26_0 Z) (jg Z Z (.gt _ _) (fun hg => jl k0 O3 (evg Z hg) Z) (jg Z Z (.gt _ _) (fun hg => jneq (evg Z hg) Z) (jg Z Z (.gt _ _) (fun hg => jmv (evg Z hg)) (jg Z Z (.gf _ _) (fun hg => jf F26_1 Z) (jg Z Z (.gf _ _) (fun hg => jl k0 O21 (evg Z hg) Z) ?_)))))))))))
 refine jg Z Z (.gf _ _) (fun hg => jneq (evg Z hg) Z) (jg Z Z (.gt _ _) (fun hg => jor2 hg Z Z) (jg Z Z (.gt _ _) (fun hg => jmv (evg Z hg)) (jg Z Z (.gf _ _) (fun hg => jf F26_4 Z) (jg Z Z (.gf _ _) (fun hg => jl k0 O3 (evg Z hg) Z) (jg Z Z (.gf _ _) (fun hg => jneq (evg Z hg) Z) (jg Z Z (.gt _ _) (fun hg => jor2 hg Z Z) (jg Z Z (.f _) (fun hg => jand2 hg Z Z) (js (jor Z Z) (jn (jx ?_))))))))))
 refine jif Z (fun hc2 => ?_) (fun hc2 => ?_)
 refine jq (jr (ja Z (jn (jx (jrt (jbr (jtr (jtr (jbr (jtr ?_))))))))))
 exact jrB Z Z (by first | exact (words_no hO hc2).elim | (rw [hO2,hO3]; simp))
 refine jsk (jbn (jx (jr (jm Z (js (jadd Z Z (by omega)) (ja Z (jn ?_)))))))
 exact jag (k + 1) ⟨by omega,by omega⟩ dn kn ⟨Z,Z,Z,eqI (by omega),trivial⟩
 refine jex (jtx (jtx (jbh (jx (jq (jr (jlit (r := (rI .i64)) (l := [0,1]) U32 I3 (by decide) Z Z Z (lV Z Z (wI (wl 0)) (lV Z Z (wI (wl 1)) ln)) fun g74 => js (jbu (v := .agg #[.int .i64 18,.int .i64 2,.int .i64 3,(.slice (some ⟨g74,0,none⟩) 2 2),.int .i32 0]) Z (fun _ => by kernel_rfl)) (jfz k0 (by (try simp) <;> omega) (jlit (r := rIns) (l := [⟨18,2,3,[0,1],0⟩]) U35 I34 (by decide) Z Z Z (lA (rIns.M (m := ⟨18,2,3,[0,1],0⟩) (c := (.slice (some ⟨g74,0,none⟩) 2 2)) d0 (wl 18) (wl 2) (wl 3) (wl 0)) ln) fun g76 => ja Z ?_)))))))))
 refine jn (jx (jq (jr (jm Z (jcs2 E13 Z Z (ret4_ct 2 (by decide)) dn kn fun c78a c78b => jfz k0 (by (try simp) <;> omega) (jdq d0 fun q13 w13 => jcs E12 Z Z (one4_ct 2 (by decide)) (dc d0 (dc d1 dn)) kn fun c79 => jm Z (jm Z (jlit (r := (rI .i32)) (l := [a,b]) U23 I21 (by decide) Z Z Z (lV Z Z (wI (wp ww0)) (lV Z Z (wI (wp ww1)) ln)) fun g82 => ?_))))))))
 refine js (jbu (v := .agg #[(.slice (some ⟨g82,0,none⟩) 2 2),.slice none 0 0,.slice none 0 0,.int .i64 2]) Z (fun _ => by kernel_rfl)) (jfz k0 (by (try simp) <;> omega) (jcs2 E11 Z Z (rRun_ct (i := ⟨[a,b],[],[],2⟩) (wide_good (.inl rfl)) (show (2 : Int) ≤ 1000000 by decide)) (dc d1 (dc (rInput.M (m := ⟨[a,b],[],[],2⟩) (c := ((.slice (some ⟨g82,0,none⟩) 2 2),.slice none 0 0,.slice none 0 0)) d0 wN wN (wl 2)) dn)) kn fun c84a c84b => ?_))
 generalize ho2 : runF (one3 2 ([⟨18,2,3,[0,1],0⟩]) (ret3 2)) (⟨[a,b],[],[],2⟩) = o2 at ⊢
 have hO2 := ho2.symm.trans wide_run2
 refine jalc J26 Z fun g11 => jdq (rOutcome.c_Mem d0) fun q17 w17 => jdq (rOutcome.c_Calls d0) fun q18 w18 => jsta k0 Z26 Z Z Z ⟨Z,Z,w17.one,w18.one,Z,trivial⟩ (saf Z) (jn (jx (jq (jr (jm Z (jcs2 E13 Z Z (ret4_ct 3 (by decide)) dn kn fun c86a c86b => jcs E12 Z Z (one4_ct 2 (by decide)) (dc d4 (dc d0 dn)) kn fun c87 => jm Z ?_))))))
 refine jm Z (jlit (r := (rI .i32)) (l := [a,b,9]) U23 I21 (by decide) Z Z Z (lV Z Z (wI (wp ww0)) (lV Z Z (wI (wp ww1)) (lV Z Z (wI (wl 9)) ln))) fun g90 => js (jbu (v := .agg #[(.slice (some ⟨g90,0,none⟩) 3 3),.slice none 0 0,.slice none 0 0,.int .i64 9]) Z (fun _ => by kernel_rfl)) (jfz k0 (by (try simp) <;> omega) (jcs2 E11 Z Z (rRun_ct (i := ⟨[a,b,9],[],[],9⟩) (wide_good (.inr rfl)) (show (9 : Int) ≤ 1000000 by decide)) (dc d1 (dc (rInput.M (m := ⟨[a,b,9],[],[],9⟩) (c := ((.slice (some ⟨g90,0,none⟩) 3 3),.slice none 0 0,.slice none 0 0)) d0 wN wN (wl 9)) dn)) kn fun c92a c92b => ?_)))
 generalize ho3 : runF (one3 2 ([⟨18,2,3,[0,1],0⟩]) (ret3 3)) (⟨[a,b,9],[],[],9⟩) = o3 at ⊢
 have hO3 := ho3.symm.trans wide_run3
 refine jalc J26 Z fun g12 => jdq (rOutcome.c_Mem d0) fun q23 w23 => jdq (rOutcome.c_Calls d0) fun q24 w24 => jsta k0 Z26 Z Z Z ⟨Z,Z,w23.one,w24.one,Z,trivial⟩ (saf Z) (jn (jx (jq (jr (jm Z (jm Z (jcv E15 Z Z (wWide_ct a b ww0 ww1) dn kn (jm Z ?_))))))))
 refine js (jex' Z Z) (js (jex' Z Z) (ja Z (ja Z (jn (jx (jq (jr (jm Z (jm Z (jk Z Z (.t _) (jf F26_1 Z) (jk Z Z (.t _) (jl k1 O21 Z Z) ?_)))))))))))
 refine jk Z Z (.t _) (jmv Z) (jk Z Z (.t _) (jeql Z Z) (js (jand Z Z) (jm Z (jg Z Z (.t _) (fun hg => jf F26_1 Z) (jg Z Z (.t _) (fun hg => jl k0 O21 (evg Z hg) Z) (jg Z Z (.t _) (fun hg => jmv Z) (jg Z Z (.t _) (fun hg => jeql (evg Z hg) (evg Z hg)) (js (jand Z Z) (jm Z (jg Z Z (.t _) (fun hg => jf F26_0 Z) (jg Z Z (.t _) (fun hg => jl k1 O3 (evg Z hg) Z) ?_)))))))))))
 refine jg Z Z (.t _) (fun hg => jeql (evg Z hg) Z) (js (jand Z Z) (jm Z (jg Z Z (.t _) (fun hg => jf F26_0 Z) (jg Z Z (.t _) (fun hg => jl k0 O3 (evg Z hg) Z) (jg Z Z (.t _) (fun hg => jeql (evg Z hg) Z) (js (jand Z Z) (ja Z (jn (jx (jrt ?_))))))))))
 exact jrB Z Z (by first | exact (words_no hO hc2).elim | (rw [hO2,hO3]; simp))
end Go.Proofs.Ytmfkkodnghambaa
