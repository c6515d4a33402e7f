/- Lemmas that the claim is made of. Conditions: each lemma names its own. -/
import Derived.Test.YtmfkkodnghambaaKE8
set_option linter.unusedSectionVars false
set_option linter.unusedSimpArgs false
set_option linter.unusedVariables false
namespace Go.Proofs.Ytmfkkodnghambaa
open Go.JE
def callI (i : Nat) : D.Ins := ⟨17,i + 1,0,List.take (i % 3) [(i : Int),0],i⟩
def callF : Nat → Nat → List D.Ins
 | _,0 => []
 | i,m + 1 => callI i :: callF (i + 1) m
theorem callF_snoc : ∀ (m i : Nat),callF i (m + 1) = callF i m ++ [callI (i + m)]
 | 0,i => rfl
 | m + 1,i => by rw [callF,callF_snoc m (i + 1),callF,List.cons_append,show i + 1 + m = i + (m + 1) by omega]
theorem callF_len : ∀ (m i : Nat),(callF i m).length = m
 | 0,_ => rfl
 | m + 1,i => by rw [callF,List.length_cons,callF_len m]
theorem call_nd : ∀ n : Nat,n ≤ 12 → ((callF 0 n).flatMap makes3).Nodup := by decide
theorem call_rg : ∀ n : Nat,n ≤ 12 → ∀ r ∈ (callF 0 n).flatMap makes3,1 ≤ r ∧ r ≤ 8191 := by decide
theorem call_op : ∀ n : Nat,n ≤ 12 → ∀ i ∈ callF 0 n,(1 ≤ i.Op ∧ i.Op ≤ 18) ∧ (operM i.Op).1 ≤ (i.Args.length : Int) ∧ (i.Args.length : Int) ≤ (operM i.Op).2 := by decide
theorem call_us : ∀ n : Nat,n ≤ 12 → ∀ k,k < (callF 0 n).length → ∀ v ∈ (ix (callF 0 n) k).Args,(0 ≤ v ∧ v < 1) ∨ v ∈ ((callF 0 n).take k).flatMap makes3 := by decide
theorem call_ut : ∀ n : Nat,n ≤ 12 → ∀ v ∈ [(n : Int)],(0 ≤ v ∧ v < 1) ∨ v ∈ (callF 0 n).flatMap makes3 := by decide
theorem call_good {n : Nat} (h : n ≤ 12) : GoodF (one3 1 (callF 0 n) (ret3 n)) :=
 good_one (by decide) (by rw [callF_len]; omega) (call_nd n h) (call_rg n h) (call_op n h) ⟨.inl ⟨rfl,show 1 ≤ 1 by decide⟩,rfl⟩ (call_us n h) (call_ut n h)
def valC (v : Int) (an : List Int) : Nat → Int
 | 0 => v
 | j + 1 => if j < an.length then ix an j else 0
def evC (v : Int) (an : List Int) (i : Nat) : D.Event := ⟨i,List.take (i % 3) [valC v an i,v]⟩
def evsC (v : Int) (an : List Int) (i : Nat) : List D.Event := (List.range i).map (evC v an)
theorem map_take2 {f : Int → Int} {n : Nat} {a b : Int} : (List.take n [a,b]).map f = List.take n [f a,f b] := by
 rw [List.map_take]; rfl
theorem call_lis {v : Int} {an : List Int} : ∀ (m i : Nat) {V : Int → Int},(i : Int) + m ≤ 12 → (∀ j : Nat,j ≤ i → V j = valC v an j) → ∃ V',(∀ j : Nat,j ≤ i + m → V' j = valC v an j) ∧ ∃ an',lisF 99 (callF i m) ⟨V,0,0,[],evsC v an i,i,an.drop i⟩ = (⟨V',0,0,[],evsC v an (i + m),i + m,an'⟩,true)
 | 0,i,V,h,hV => ⟨V,hV,_,rfl⟩
 | m + 1,i,V,h,hV => by
   have e1 : insF (callI i) ⟨V,0,0,[],evsC v an i,(i : Int) + 1,an.drop i⟩ = ⟨if 0 < (an.drop i).length then setV (setV V (i + 1) 0) (i + 1) (ix (an.drop i) 0) else setV V (i + 1) 0,0,0,[],evsC v an i ++ [⟨i,(List.take (i % 3) [(i : Int),0]).map V⟩],(i : Int) + 1,(an.drop i).drop 1⟩ := rfl
   rw [map_take2,hV i (Nat.le_refl _),show V 0 = v from hV 0 (Nat.zero_le _),List.drop_drop] at e1
   have e2 : evsC v an i ++ [⟨i,List.take (i % 3) [valC v an i,v]⟩] = evsC v an (i + 1) := by unfold evsC; rw [List.range_succ,List.map_append]; rfl
   rw [e2] at e1
   have hV2 : ∀ j : Nat,j ≤ i + 1 → (if 0 < (an.drop i).length then setV (setV V (i + 1) 0) (i + 1) (ix (an.drop i) 0) else setV V (i + 1) 0) j = valC v an j := fun j hj => by
     by_cases e : j = i + 1
     · subst e
       rw [valC,List.length_drop]
       by_cases h1 : i < an.length
       · rw [if_pos (by omega),if_pos h1]
         unfold setV; rw [if_pos (by push_cast; rfl),show ix (an.drop i) 0 = ix an i by simp [ix,List.getD]]
       · rw [if_neg (by omega),if_neg h1]
         unfold setV; rw [if_pos (by push_cast; rfl)]
     · rw [← hV j (by omega)]
       have : ¬ (j : Int) = (i : Int) + 1 := by omega
       split <;> simp [setV,this]
   obtain ⟨V',h1,an',h2⟩ := call_lis (v := v) (an := an) m (i + 1) (by omega) hV2
   refine ⟨V',fun j hj => h1 j (by omega),an',?_⟩
   rw [callF,lis_one rfl (show (i : Int) < 99 by omega)]
   show lisF 99 (callF (i + 1) m) (insF (callI i) ⟨V,0,0,[],evsC v an i,(i : Int) + 1,an.drop i⟩) = _
   rw [e1]
   have h3 : ((i + 1 : Nat) : Int) = (i : Int) + 1 := by omega
   rw [h3] at h2
   rw [h2,show i + 1 + m = i + (m + 1) by omega,show (i : Int) + 1 + (m : Int) = (i : Int) + ((m + 1 : Nat) : Int) by omega]
theorem call_run {n : Nat} (h : n ≤ 12) {v : Int} {an : List Int} : runF (one3 1 (callF 0 n) (ret3 n)) ⟨[v],[],an,99⟩ = ⟨1,valC v an n,[],evsC v an n,(n : Int) + 1⟩ := by
 obtain ⟨V',h1,an',h2⟩ := call_lis (v := v) (an := an) n 0 (V := argsV [v] 1) (by omega) (fun j hj => by
   have : j = 0 := by omega
   subst this; rfl)
 have e : startF (one3 1 (callF 0 n) (ret3 n)) ⟨[v],[],an,99⟩ = ⟨argsV [v] 1,0,0,[],evsC v an 0,((0 : Nat) : Int),an.drop 0⟩ := rfl
 rw [← e] at h2
 rw [run_end h2 rfl (show ((0 : Nat) : Int) + (n : Int) < 99 by omega) (by rw [show termE (ret3 n) 0 = 1 from rfl]; decide)]
 show (⟨1,V' n,[],evsC v an (0 + n),((0 : Nat) : Int) + (n : Int) + 1⟩ : D.Outcome) = _
 rw [h1 n (by omega),Nat.zero_add,show ((0 : Nat) : Int) + (n : Int) + 1 = (n : Int) + 1 by omega]
theorem evsC_len {v : Int} {an : List Int} {n : Nat} : (evsC v an n).length = n := by unfold evsC; simp
theorem evsC_ix {v : Int} {an : List Int} {n k : Nat} (h : k < n) : ix (evsC v an n) k = evC v an k := by
 unfold evsC; rw [ix_mapG (by simpa using h),ix_eq (by simpa using h)]; simp
theorem calls_at {n k : Nat} {v : Int} {an : List Int} {o : D.Outcome} (h : o = ⟨1,valC v an n,[],evsC v an n,(n : Int) + 1⟩) (hk : k < n) (hn : n ≤ 12) : (ix o.Calls k).Callee = IntKind.i32.wrap (k : Int) := by
 subst h
 show (ix (evsC v an n) k).Callee = _
 rw [evsC_ix hk]
 show (k : Int) = _
 rw [IntKind.wrap_i32]; omega
theorem tmod3 (k : Nat) : (0 ≤ Int.tmod (k : Int) 3 ∧ Int.tmod (k : Int) 3 < 3) ∧ Int.toNat (Int.tmod (k : Int) 3) = k % 3 := by
 rw [Int.tmod_eq_emod_of_nonneg (by omega)]
 exact ⟨by omega,by omega⟩
theorem call_step {k : Nat} (h : (k : Int) ≤ 12) : callF 0 k ++ [⟨17,(k : Int) + 1,0,List.take (Int.toNat (Int.tmod (k : Int) 3)) [(k : Int),0],IntKind.i32.wrap (k : Int)⟩] = callF 0 (k + 1) := by
 rw [callF_snoc,Nat.zero_add,(tmod3 k).2,show IntKind.i32.wrap (k : Int) = k by rw [IntKind.wrap_i32]; omega]; rfl
theorem calls_no {n : Nat} {v nn : Int} {an : List Int} {o : D.Outcome} (h : o = ⟨1,valC v an n,[],evsC v an n,(n : Int) + 1⟩) (hn : nn = n) (hc : (¬ o.End = 1 ∨ ¬ (o.Calls.length : Int) = nn) ∨ ¬ o.Steps = nn + 1) : False := by
 subst h; subst hn
 simp [evsC_len] at hc
theorem calls_no2 {n k : Nat} {v wv : Int} {an : List Int} {o : D.Outcome} (h : o = ⟨1,valC v an n,[],evsC v an n,(n : Int) + 1⟩) (hk : k < n) (hw : wv = valC v an k) (hc : rowsM (ix o.Calls k).Args (List.take (Int.toNat (Int.tmod (k : Int) 3)) [wv,v]) = false) : False := by
 subst h; subst hw
 rw [(tmod3 k).2,show (ix (D.Outcome.Calls ⟨1,valC v an n,[],evsC v an n,(n : Int) + 1⟩) k) = evC v an k from evsC_ix hk] at hc
 simp [rowsM,evC] at hc
theorem calls_len {n : Nat} {v : Int} {an : List Int} {o : D.Outcome} (h : o = ⟨1,valC v an n,[],evsC v an n,(n : Int) + 1⟩) : o.Calls.length = n ∧ o.Val = valC v an n := by subst h; exact ⟨evsC_len,rfl⟩
abbrev U5 := @Try.underlying5
theorem E10 : Ent Try.prog 10 := ⟨_,Try.func10,by kernel_rfl,by kernel_rfl⟩
attribute [local irreducible] runF
end Go.Proofs.Ytmfkkodnghambaa
namespace Go.Proofs.Ytmfkkodnghambaa
open Go.JE
theorem take20 (m : List Int) : (List.take (Int.toNat (min (m.length : Int) 20)) m).length ≤ 20 := by rw [List.length_take]; omega
attribute [local irreducible] runF
theorem u8m9 {n m : Int} (h : IntKind.u8.wrap n = n) (hm : 0 < m ∧ m ≤ 100) : 0 ≤ IntKind.i64.wrap (Int.tmod n m) ∧ IntKind.i64.wrap (Int.tmod n m) < m := by
 rw [IntKind.wrap_u8] at h
 rw [Int.tmod_eq_emod_of_nonneg (by omega),IntKind.wrap_i64]
 have := Int.emod_nonneg n (show m ≠ 0 by omega)
 have := Int.emod_lt_of_pos n hm.1
 omega
set_option maxRecDepth 8000 in
theorem calls_ct4 (n : Int) {a1 : Value} {ans : List Int} {N1 : Nat} (v : Int) (ww0 : IntKind.u8.wrap n = n) (ww2 : IntKind.i32.wrap v = v) : Tv Try.prog 8 #[.int .u8 n,a1,.int .i32 v] [dv (rLn N1 (rI .i32)) a1 ans] [] (.bool true) := by
 refine jenter (args := [.int .u8 n,a1,.int .i32 v]) Try.func8 rfl rfl rfl fun w0 X => ?_
 have hn := u8m9 (m := 13) ww0 (by decide)
 have hal := take20 ans
 refine jq (jr (ja Z (jn (jx (jq (jr (jcv E10 Z Z shown4_ct dn kn (ja Z (jn (jx (jq ?_)))))))))))
 refine jr (jm Z (js (jrem Z Z (by decide)) (js (jco U5 U3 Z Z) ?_)))
 have hwn := JE.wrap_wrap .i64 (Int.tmod n 13)
 generalize hnn : IntKind.i64.wrap (Int.tmod n 13) = nn at hwn hn ⊢
 refine ja Z (jn (jx (jq (jr (jlit (r := rIns) (l := []) U35 I34 (by decide) Z Z Z ln fun g20 => ja Z (jn (jx (jq (jr (ja Z ?_))))))))))
 refine jn (jx (jq (jq (jr (ja Z (jn (jx (jb ?_))))))))
 refine jlp (u3 fun (k : Nat) (ls : List D.Ins) (vl : Value) => ⟨(k : Int) ≤ nn ∧ ls = callF 0 k,[dv (rLn N1 (rI .i32)) a1 ans],[gl X.n rIns 34 vl ls],[(1,a1),(2,.int .i32 v),(6,.bool false),(7,.bool true),(8,.int .i64 nn),(9,vl),(10,.int .i64 (↑k)),(11,.int .i64 (↑k))],(Int.toNat nn) - k⟩) (0,[],(.slice (some ⟨g20,0,none⟩) 0 0)) ⟨by dsimp only; omega,rfl⟩ (dc d0 dn) (kc k0 kn) ⟨Z,Z,Z,Z,Z,Z,eqI (by omega),eqI (by omega),trivial⟩ ?_
 rintro ⟨k,ls,vl⟩; dsimp only [u3]; rintro ⟨hk,hls⟩
 refine cgo k0 fun w1 => jq (jq (jr (jm Z (jm Z (js (jlss Z Z) (jn (jx ?_)))))))
 refine jif Z (fun hc1 => ?_) (fun hc1 => ?_)
 have htm := tmod3 k
 have h2l : ([(k : Int),0] : List Int).length = 2 := rfl
 have hll : ls.length = k := by rw [hls,callF_len]
 refine jsk (jx (jq (jb (jq (jr (jm Z (jm Z (js (jadd Z Z (by omega)) (jm Z (jlit (r := (rI .i64)) (l := [↑k,0]) U32 I3 (by decide) Z Z Z (lV Z Z (wI (wp (IntWalk.i64_in _ (by omega)))) (lV Z Z (wI (wl 0)) ln)) fun g30 => jfz k0 (by (try simp) <;> omega) ?_))))))))))
 refine jm Z (js (jrem Z Z (by decide)) (jdq d0 fun q3 w3 => js (jshi (hi := (Int.toNat (Int.tmod ↑k 3))) U32 Z3 d0 Z Z (by omega) (by omega)) (jm Z (js (jco U3 U21 Z Z) (js (jbu (v := .agg #[.int .i64 17,.int .i64 (↑k + 1),.int .i64 0,(resl 1 (.slice (some ⟨g30,0,none⟩) 2 2) 0 (Int.toNat (Int.tmod ↑k 3))),.int .i32 (IntKind.i32.wrap ↑k)]) Z (fun _ => by kernel_rfl)) (jap U35 I34 (by decide) Z k0 Z (rIns.M (m := ⟨17,↑k + 1,0,List.take (Int.toNat (Int.tmod ↑k 3)) ([↑k,0]),IntKind.i32.wrap ↑k⟩) (c := (resl 1 (.slice (some ⟨g30,0,none⟩) 2 2) 0 (Int.toNat (Int.tmod ↑k 3)))) (dhi d0 (Int.toNat (Int.tmod ↑k 3)) (by omega) (by omega)) (wl 17) (wp (IntWalk.i64_in (↑k + 1) (by omega))) (wl 0) (wp (JE.wrap_wrap _ _))) (by omega) (fun _ => Z) fun v38 _ w4 => ja Z (jn (jx (jr ?_)))))))))
 refine jm Z (js (jadd Z Z (by omega)) (ja Z (jn (jbn (jx (jr (jm Z (js (jadd Z Z (by omega)) (ja Z (jn ?_))))))))))
 exact jag (k + 1,ls ++ [⟨17,((k : Nat) : Int) + 1,0,List.take (Int.toNat (Int.tmod ((k : Nat) : Int) 3)) ([((k : Nat) : Int),0]),IntKind.i32.wrap ((k : Nat) : Int)⟩],v38) ⟨by dsimp only; omega,by dsimp only; rw [hls]; exact call_step (by omega)⟩ (dc d1 dn) (kc k0 kn) ⟨Z,Z,Z,Z,Z,Z,eqI (by omega),eqI (by omega),trivial⟩
 have hkn : nn = k := by omega
 have hll : ls.length = k := by rw [hls,callF_len]
 refine jex (jtx (jtx (jbh (jx (jq (jr (jlit (r := (rI .i32)) (l := []) U23 I21 (by decide) Z Z Z ln fun g41 => jm Z (jm Z (jdq d0 fun q5 w5 => js (jln U23 d0 Z) ?_)))))))))
 refine js (jmin Z Z) (js (jshi (hi := (Int.toNat (min (↑(List.length ans)) 20))) U23 Z21 d0 Z Z (by omega) (by omega)) (jdq (dhi d0 (Int.toNat (min (↑(List.length ans)) 20)) (by omega) (by omega)) fun q6 w6 => japlz U23 I21 (by decide) Z k0 Z Z (dhi d0 (Int.toNat (min (↑(List.length ans)) 20)) (by omega) (by omega)) (by (try simp) <;> omega) fun v47 w7 => ?_))
 generalize han0 : List.take (Int.toNat (min (↑(List.length ans)) 20)) ans = an0 at q6 w6 hal ⊢
 refine ja Z (jn (jx (jq (jr (jm Z (jm Z (jcs2 E13 Z Z (ret4_ct ↑k (IntWalk.i64_in _ (by omega))) dn kn fun c50a c50b => jfz k1 (by omega) (jcs E12 Z Z (one4_ct 1 (by decide)) (dc d0 (dc d1 dn)) kn fun c51 => jm Z (jlit (r := (rI .i32)) (l := [v]) U23 I21 (by decide) Z Z Z (lV Z Z (wI (wp ww2)) ln) fun g53 => ?_)))))))))
 refine jm Z (js (jbu (v := .agg #[(.slice (some ⟨g53,0,none⟩) 1 1),.slice none 0 0,v47,.int .i64 99]) Z (fun _ => by obtain ⟨_,_,_,rfl⟩ := w7; kernel_rfl)) (jfz k0 (by (try simp) <;> omega) (jfz k0 (by omega) (jcs2 E11 Z Z (rRun_ct (i := ⟨[v],[],an0,99⟩) (by rw [hls]; exact call_good (n := k) (by omega)) (show (99 : Int) ≤ 1000000 by decide)) (dc d2 (dc (rInput.M (m := ⟨[v],[],an0,99⟩) (c := ((.slice (some ⟨g53,0,none⟩) 1 1),.slice none 0 0,v47)) d1 wN d0 (wl 99)) dn)) kn fun c56a c56b => ?_))))
 generalize hoa : runF (one3 1 ls (ret3 ↑k)) (⟨[v],[],an0,99⟩) = oa at ⊢
 have hO : oa = ⟨1,valC v an0 k,[],evsC v an0 k,(k : Int) + 1⟩ := by rw [← hoa,hls]; exact call_run (by omega)
 refine jalc J26 Z fun g13 => jdq (rOutcome.c_Mem d0) fun q14 w14 => jdq (rOutcome.c_Calls d0) fun q15 w15 => jsta k0 Z26 Z Z Z ⟨Z,Z,w14.one,w15.one,Z,trivial⟩ (saf Z) (jn (jx (jq (jq (jr (js (jf F26_0 Z) (js (jl k0 O3 Z Z) (js (jneq Z Z) ?_))))))))
 refine jm Z (jg Z Z (.f _) (fun hg => jf F26_3 Z) (jg Z Z (.f _) (fun hg => jl k0 O24 (evg Z hg) Z) (jg Z Z (.f _) (fun hg => jln U24 (rOutcome.c_Calls d0) (evg Z hg)) (jg Z Z (.f _) (fun hg => jmv Z) (jg Z Z (.f _) (fun hg => jneq (evg Z hg) (evg Z hg)) (js (jor Z Z) (jm Z (jg Z Z (.f _) (fun hg => jf F26_4 Z) (jg Z Z (.f _) (fun hg => jl k0 O3 (evg Z hg) Z) (jg Z Z (.f _) (fun hg => jmv Z) (jg Z Z (.f _) (fun hg => jadd (evg Z hg) Z (by first | omega | (simp at hg; omega))) ?_)))))))))))
 refine jg Z Z (.f _) (fun hg => jneq (evg Z hg) (evg Z hg)) (js (jor Z Z) (jn (jx ?_)))
 refine jif Z (fun hc2 => ?_) (fun hc2 => ?_)
 exact (calls_no hO hkn hc2).elim
 have hcl := calls_len hO
 refine jsk (jx (jq (jr (jm Z (ja Z (jn (jx (jq (jq (jr (ja Z ?_)))))))))))
 refine jn (jx (jb ?_))
 refine jlp (u2 fun (j : Nat) (wv : Int) => ⟨(j : Int) ≤ nn ∧ wv = valC v an0 j ∧ IntKind.i32.wrap wv = wv,[da rOutcome (vOutcome oa (c56a,c56b)) oa,dv (rL (rI .i32)) v47 an0],[bx g13 26 [.int .i64 oa.End,.int .i32 oa.Val,c56a,c56b,.int .i64 oa.Steps]],[(2,.int .i32 v),(7,.bool true),(8,.int .i64 nn),(12,v47),(13,.pointer (some ⟨g13,0,none⟩)),(14,.int .i32 wv),(15,.int .i64 (↑j))],(Int.toNat nn) - j⟩) (0,v) ⟨by dsimp only; omega,rfl,ww2⟩ (dc d0 (dc d1 dn)) (kc k0 kn) ⟨Z,Z,Z,Z,Z,eqI (by omega),eqI (by omega),trivial⟩ ?_
 rintro ⟨j,wv⟩; dsimp only [u2]; rintro ⟨hj,hwv1,hwv⟩
 refine jq (jq (jr (jm Z (jm Z (js (jlss Z Z) (jn (jx ?_)))))))
 refine jif Z (fun hc3 => ?_) (fun hc3 => ?_)
 have htm := tmod3 j
 have h2l : ([wv,v] : List Int).length = 2 := rfl
 have hcal : (ix oa.Calls j).Callee = IntKind.i32.wrap (j : Int) := calls_at hO (by omega) (by omega)
 refine jsk (jx (jq (jb (jq (jq (jany false (.a 0 (.a 1 (.a 2 (.a 3 (.a 4 (.a 5 (.a 6 (.a 7 (.a 8 (.a 9 (.a 10 (.a 11 (.a 12 (.a 13 (.a 14 (.a 15 (.a 16 (.a 17 (.a 19 (.a 20 (.o 18 (.o 21 (.o 22 (.a 23 (.a 24 .e))))))))))))))))))))))))) Mixed (by kernel_rfl) (kc k0 kn) fun F16 => jy Z (jf F26_3 Z) (jy Z (jl k0 O24 Z Z) (jy Z (jmv Z) (jy Z (jix U24 Z60 (rOutcome.c_Calls d0) Z Z Z (by omega)) (jy Z (jf F60_0 Z) ?_))))))))))
 refine jy Z (jlI (rEvent.A_Callee (dix (rOutcome.c_Calls d0) j (by omega))) O21 Z) (jy Z (jmv Z) (jy Z (jco U3 U21 Z Z) (jy Z (jneq Z Z) ?_)))
 rw [show (!decide ((ix oa.Calls j).Callee = IntKind.i32.wrap ↑j)) = false from (by simp [hcal])]
 refine jy Z (jmv Z) (jyk Z Z Z (.f _) (jf F26_3 Z) (jyk Z Z Z (.f _) (jl k0 O24 Z Z) (jyk Z Z Z (.f _) (jmv Z) (jyk Z Z Z (.f _) (jix U24 Z60 (rOutcome.c_Calls d0) Z Z Z (by omega)) (jyk Z Z Z (.f _) (jf F60_1 Z) (jyek (q := fun v => dv (rL (rI .i32)) v ((ix oa.Calls j).Args)) Z Z Z (.f _) (xlV (rEvent.A_Args (dix (rOutcome.c_Calls d0) j (by omega))) O23 Z Z) fun v95 => jyk Z Z Z (.f _) (jmv Z) (jyk Z Z Z (.f _) (jmv Z) (jyk Z Z Z (.f _) (jmv Z) (jyk Z Z Z (.f _) (jrem Z Z (by decide)) (jyo Z ?_))))))))))
 refine jgk Z Z (.f _) (jlit (r := (rI .i32)) (l := [wv,v]) U23 I21 (by decide) Z Z Z (lV Z Z (wI (wp hwv)) (lV Z Z (wI (wp ww2)) ln)) fun g98 => jfz k0 (by (try simp) <;> omega) (jyn d1 (kc k0 kn) (jyo Z (jdq d1 fun q21 w21 => jk Z Z (.f _) (jshi (hi := (Int.toNat (Int.tmod ↑j 3))) U23 Z21 d1 Z Z (by omega) (by omega)) (jyn d0 (kc k0 kn) (jyo Z (jgk Z Z (.f _) (jdq d4 fun q23 w23 => jdq (dhi d2 (Int.toNat (Int.tmod ↑j 3)) (by omega) (by omega)) fun q24 w24 => ?_))))))))
 refine jcv E17 Z Z words_ct (dc d4 (dc (dhi d2 (Int.toNat (Int.tmod ↑j 3)) (by omega) (by omega)) dn)) kn (jyn d0 (kc k0 kn) (jyk Z Z Z (.f _) (jnot Z) (jy Z (jor Z Z) (jyd (jx ?_)))))
 refine jif Z (fun hc4 => ?_) (fun hc4 => ?_)
 exact (calls_no2 hO (by omega) hwv1 (by simpa using hc4)).elim
 refine jsk (jx (jq (jr (ja Z (jn (jx (jq (jr (jm Z (jm Z (js (jln U23 d6 Z) ?_)))))))))))
 refine js (jlss Z Z) (jn (jx ?_))
 refine jif Z (fun hc5 => ?_) (fun hc5 => ?_)
 refine jr (jm Z (jm Z (js (jix U23 Z21 d6 Z Z Z (by omega)) (js (jlI (dix d6 j (by omega)) O21 Z) (ja Z (jn (jbn (jx (jr (jm Z (js (jadd Z Z (by omega)) ?_)))))))))))
 refine ja Z (jn (qwr (wad (dix d6 j (by omega))) fun w25 => ?_))
 exact jag (j + 1,ix an0 j) ⟨by dsimp only; omega,by dsimp only; rw [valC]; first | (rw [if_pos (by omega)]; done) | (rw [if_neg (by omega)]; done),by dsimp only; exact w25⟩ (dc d5 (dc d6 dn)) (kc k0 kn) ⟨Z,Z,Z,Z,Z,eqI (by omega),eqI (by omega),trivial⟩
 refine jsk (jbn (jx (jr (jm Z (js (jadd Z Z (by omega)) (ja Z (jn ?_)))))))
 exact jag (j + 1,0) ⟨by dsimp only; omega,by dsimp only; rw [valC]; first | (rw [if_pos (by omega)]; done) | (rw [if_neg (by omega)]; done),by dsimp only; decide⟩ (dc d5 (dc d6 dn)) (kc k0 kn) ⟨Z,Z,Z,Z,Z,eqI (by omega),eqI (by omega),trivial⟩
 refine jex (jtx (jtx (jbh (jx (jq (jr (jm Z (jm Z (jk Z Z (.t _) (jf F26_1 Z) (jk Z Z (.t _) (jl k0 O21 Z Z) (jk Z Z (.t _) (jmv Z) ?_)))))))))))
 refine jk Z Z (.t _) (jeql Z Z) (js (jand Z Z) (ja Z (jn (jx (jrt ?_)))))
 exact jrB Z Z (by rw [hcl.2,hwv1,show j = k by omega]; simp)
end Go.Proofs.Ytmfkkodnghambaa
