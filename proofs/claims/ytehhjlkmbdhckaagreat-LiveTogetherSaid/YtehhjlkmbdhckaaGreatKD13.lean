/- Lemmas that the claim is made of. Conditions: each lemma names its own. -/
import Derived.Test.YtehhjlkmbdhckaaGreatKD12
set_option linter.unusedSectionVars false
set_option linter.unusedSimpArgs false
set_option linter.unusedVariables false
namespace Go.Proofs.YtehhjlkmbdhckaaGreat
open Go.JE
abbrev U91 := @Tryz.underlying91
theorem E15 : Ent Tryz.prog 15 := ⟨_,Tryz.func15,by kernel_rfl,by kernel_rfl⟩
theorem E39 : Ent Tryz.prog 39 := ⟨_,Tryz.func39,by kernel_rfl,by kernel_rfl⟩
theorem E40 : Ent Tryz.prog 40 := ⟨_,Tryz.func40,by kernel_rfl,by kernel_rfl⟩
theorem at_ct {a0 : Value} {m : D.MFunc} (b : Int) (p : Int) : Td Tryz.prog 18 #[vMFunc m a0,.int .i64 b,.int .i64 p] [da rMFunc (vMFunc m a0) m] [] (rL (rI .i64)) (atM m b p) := by
 refine jenter (args := [vMFunc m a0,.int .i64 b,.int .i64 p]) Tryz.func18 rfl rfl rfl fun w0 X => ?_
 refine jq (jr (jbox Z Z fun g3 => ja Z (jn (jx (jq (jq (jr (js (jla k0 A28 Z28 Z Z Z) (jm Z (jm Z ?_))))))))))
 refine jcv E15 Z Z (number_ct b p) (dc d0 dn) kn (js (jlss Z Z) (jn (jx ?_)))
 refine jif Z (fun hc1 => ?_) (fun hc1 => ?_)
 refine jq (jr (ja Z (jn (jx (jrt (jtr ?_))))))
 exact jrD Z Z (by first | (rw [atM,if_pos hth]; done) | (rw [atM,if_neg (by rw [numM_neg.1 hc1]; simp)]; done)) wN
 have hth := numM_neg.2 hc1
 have hty := there_yes hth
 have hr := hty.1
 have hw := right_wl hr
 have hq := right_ins hr
 have hple := plM_len (bs := m.Blocks)
 have hpll := pl_len (bs := m.Blocks) (b := Int.toNat b) (by omega)
 have hso := at_ok (p := Int.toNat p) hw (b := Int.toNat b) (by omega)
 refine jsk (jx (jq (jr (js (jla k0 A28 Z28 Z Z Z) (jc E40 Z Z (of_ct hr) (dc d0 dn) kn (fun _ => p2) (fun _ => p1) fun c13 => js (jnil Z) (js (jf F90_2 Z) (js (jl k0 O88 Z Z) (jm Z (jdq d1 fun q3 w3 => js (jix (i := (Int.toNat b)) U88 Z87 d1 Z Z (by omega) (by omega)) ?_)))))))))
 refine jev (jlV (dix d1 (Int.toNat b) (by omega)) O87 Z Z) fun v19 q4 w4 => jm Z (js (jix (i := (Int.toNat p)) U87 Z86 d0 Z Z (by omega) (by omega)) (je (q := fun v => dv rSet v (ix (ix (plM m.Blocks) (Int.toNat b)) (Int.toNat p))) (jlV (dix d0 (Int.toNat p) (by omega)) O86 Z Z) fun v22 => jcg E39 Z Z (sorted_ct hso.w hso.n) (dc (dcast (a := ix (ix (plM m.Blocks) (Int.toNat b)) (Int.toNat p)) (a' := some (atE m.Blocks (Int.toNat b) (Int.toNat p))) (at_some (by omega) (by omega)) d0) dn) kn fun v23 w7 => ja Z (jn (jx (jrt (qfz k0 (by have := hso.n; omega) ?_))))))
 exact jrD Z Z (by first | (rw [atM,if_pos hth]; done) | (rw [atM,if_neg (by rw [numM_neg.1 hc1]; simp)]; done)) d0
theorem liveHas_ct {g0 : Nat} {bv ev pv : Value} {m : D.MFunc} (b : Nat) (p : Nat) (hr : rightM m = true) (hb : b < m.Blocks.length) (hp : p ≤ (ix m.Blocks b).Ins.length) : Tr Tryz.prog 71 #[.pointer (some ⟨g0,0,none⟩),.int .i64 (b : Nat),.int .i64 (p : Nat)] [dv (rL rMBlock) bv m.Blocks,dv (rL rSet) ev (List.map some (loE m.Blocks)),dv (rL (rL rSet)) pv (plM m.Blocks)] [bx g0 90 [.int .i64 m.Params,bv,ev,pv]] (fun g : Nat => .map (some g)) (fun _ => []) (fun B g => [bx g0 90 [.int .i64 m.Params,bv,ev,pv],sm B g (hasE m b p)]) := by
 refine jenter (args := [.pointer (some ⟨g0,0,none⟩),.int .i64 (b : Nat),.int .i64 (p : Nat)]) Tryz.func71 rfl rfl rfl fun w0 X => ?_
 have hw := right_wl hr
 have hq := right_ins hr
 have hqb := hq b hb
 have hnP := (right_wf hr).p0
 have hple := plM_len (bs := m.Blocks)
 have hpll := pl_len (bs := m.Blocks) hb
 refine jq (jr (ja Z (jn (jx (jq (jr (jm Z (js (jnil Z) (js (jf F90_2 Z) (js (jl k0 O88 Z Z) (jm Z ?_)))))))))))
 refine jdq d2 fun q1 w1 => js (jix U88 Z87 d2 Z Z Z (by omega)) (jev (jlV (dix d2 b (by omega)) O87 Z Z) fun v17 q2 w2 => jm Z (js (jix U87 Z86 d0 Z Z Z (by omega)) (je (q := fun v => dv rSet v (ix (ix (plM m.Blocks) b) p)) (jlV (dix d0 p (by omega)) O86 Z Z) fun v20 => jc E108 Z Z setClone_ct (dc (dcast (a := ix (ix (plM m.Blocks) b) p) (a' := some (atE m.Blocks b p)) (at_some hb hp) d0) dn) kn (fun _ => p0) (fun _ => p1) fun g21 => ja Z (jn (jx (jq (jq ?_)))))))
 refine jr (jm Z (js (jgtr Z Z) (jn (jx ?_))))
 refine jif Z (fun hc1 => ?_) (fun hc1 => ?_)
 refine jq (jr (jm Z (jm Z (js (jnil Z) (js (jf F90_0 Z) (js (jf F28_1 Z) (js (jl k1 O26 Z Z) (jm Z (jdq d2 fun q5 w5 => js (jix U26 Z37 d2 Z Z Z (by omega)) (js (jf F37_1 Z) ?_))))))))))
 refine jev (jlV (rMBlock.A_Ins (dix d2 b (by omega))) O33 Z Z) fun v33 q6 w6 => jm Z (js (jsub Z Z (by omega)) (js (jix (i := (p - 1)) U33 Z69 d0 Z Z (by omega) (by omega)) (jA sMach (jlA (dix d0 (p - 1) (by omega)) A69 Z69 Z) fun c37 => jcd E31 Z Z pMakes_ct (dc d0 dn) kn fun v38 q9 w9 => jc E110 Z Z with_ct (dc d0 dn) (kc k0 kn) (fun _ => p0) (fun _ => p1) fun _ => jn (jx (jq (jr (jm Z ?_)))))))
 refine ja Z (jn (jx (jrt (jtr ?_))))
 exact jr1 Z Z g21 Z dn (fun _ hB => kc k1 (klS (by unfold hasE; rw [if_pos (by omega)]) hB k0 kn))
 refine jsk (jx (jq (jq (jr (jm Z (js (jnil Z) (js (jf F90_0 Z) (js (jf F28_1 Z) (js (jl k1 O26 Z Z) (jm Z (jdq d2 fun q11 w11 => ?_)))))))))))
 refine js (jix U26 Z37 d2 Z Z Z (by omega)) (js (jf F37_0 Z) (jev (jlV (rMBlock.A_Phis (dix d2 b (by omega))) O32 Z Z) fun v49 q12 w12 => js (jln U32 d0 Z) (jm Z (jn (jx (jb ?_))))))
 refine jlp (u2 fun (i : Nat) (S1 : List Int) => ⟨i ≤ (ix m.Blocks b).Phis.length ∧ S1 = uniS (atE m.Blocks b p) (((ix m.Blocks b).Phis.take i).map (fun q => q.Dst)),[dv (rL rPhi) v49 ((ix m.Blocks b).Phis),dv (rL rMBlock) bv m.Blocks,dv (rL rSet) ev (List.map some (loE m.Blocks)),dv (rL (rL rSet)) pv (plM m.Blocks)],[sm X.n g21 S1,bx g0 90 [.int .i64 m.Params,bv,ev,pv]],[(0,.pointer (some ⟨g0,0,none⟩)),(1,.int .i64 (↑b)),(6,.map none),(7,(.map (some g21))),(49,v49),(50,.int .i64 (↑(List.length ((ix m.Blocks b).Phis)))),(51,.int .i64 (↑i))],(ix m.Blocks b).Phis.length - i⟩) (0,(atE m.Blocks b p)) ⟨by dsimp only; omega,rfl⟩ (dc d0 (dc d3 (dc d4 (dc d5 dn)))) (kd kn) ⟨Z,Z,Z,Z,Z,Z,eqI (by omega),trivial⟩ ?_
 rintro ⟨i,S1⟩; dsimp only [u2]; rintro ⟨hi1,hS1⟩
 refine jq (jr (js (jlss Z Z) (jn (jx (jq ?_)))))
 refine jif Z (fun hc2 => ?_) (fun hc2 => ?_)
 refine jsk (jx (jq (jb (jq (jr (js (jix U32 Z62 d0 Z Z Z (by omega)) (jA sPhi (jlA (dix d0 i (by omega)) A62 Z62 Z) fun c54 => jalc J62 Z fun g9 => jdq (rPhi.c_In d0) fun q15 w15 => jsta k0 Z62 Z Z Z ⟨Z,w15.one,trivial⟩ (saf Z) (jn ?_))))))))
 refine jx (jr (jm Z (js (jf F62_0 Z) (js (jl k0 O3 Z Z) (jlit (r := (rI .i64)) (l := [(ix ((ix m.Blocks b).Phis) i).Dst]) U22 I3 (by decide) Z Z Z (lV Z Z (wI (rPhi.W_Dst d0)) ln) fun g58 => jfz k0 (by (try simp) <;> omega) (jc E110 Z Z with_ct (dc d0 dn) (kc k1 kn) (fun _ => p0) (fun _ => p1) fun _ => jn (jbn (jx (jr ?_)))))))))
 refine js (jadd Z Z (by omega)) (jm Z (jn ?_))
 exact jag (i + 1,uniS S1 ([(ix ((ix m.Blocks b).Phis) i).Dst])) ⟨by dsimp only; omega,by dsimp only; rw [hS1,take_ix (by omega),List.map_append,uniS_one]; rfl⟩ (dc d2 (dc d3 (dc d4 (dc d5 dn)))) (kc k0 (kc k1 kn)) ⟨Z,Z,Z,Z,Z,Z,eqI (by omega),trivial⟩
 refine jex (jtx (jtx (jbh (jx (jq (jq (jr (jm Z (js (jnil Z) (js (jf F90_0 Z) (js (jf F28_0 Z) ?_)))))))))))
 refine js (jl k1 O3 Z Z) (jm Z (jn (jx (jb ?_))))
 have hS2 : S1 = uniS (atE m.Blocks b p) (dsts (ix m.Blocks b)) := by rw [hS1,List.take_of_length_le (by omega)]; rfl
 refine jlp (u2 fun (r : Nat) (S2 : List Int) => ⟨r ≤ Int.toNat m.Params ∧ S2 = if b = 0 then uniS S1 ((List.range r).map (fun r : Nat => (r : Int))) else S1,[dv (rL rMBlock) bv m.Blocks,dv (rL rSet) ev (List.map some (loE m.Blocks)),dv (rL (rL rSet)) pv (plM m.Blocks)],[sm X.n g21 S2,bx g0 90 [.int .i64 m.Params,bv,ev,pv]],[(1,.int .i64 (↑b)),(6,.map none),(7,(.map (some g21))),(65,.int .i64 m.Params),(66,.int .i64 (↑r))],Int.toNat m.Params - r⟩) (0,S1) ⟨by dsimp only; omega,by dsimp only; split <;> rfl⟩ (dc d1 (dc d2 (dc d3 dn))) (kd kn) ⟨Z,Z,Z,Z,eqI (by omega),trivial⟩ ?_
 rintro ⟨r,S2⟩; dsimp only [u2]; rintro ⟨hr1,hS3⟩
 refine jq (jr (js (jlss Z Z) (jn (jx (jq ?_)))))
 refine jif Z (fun hc3 => ?_) (fun hc3 => ?_)
 refine jsk (jx (jq (jb (jq (jr (jm Z (ja Z (jn (jx (jq (jr ?_)))))))))))
 refine jm Z (js (jeql Z Z) (jn (jx ?_)))
 refine jif Z (fun hc4 => ?_) (fun hc4 => ?_)
 refine jr (jm Z (jm Z (jlit (r := (rI .i64)) (l := [↑r]) U22 I3 (by decide) Z Z Z (lV Z Z (wI (wp (IntWalk.i64_in _ (by omega)))) ln) fun g73 => jfz k0 (by (try simp) <;> omega) (jc E110 Z Z with_ct (dc d0 dn) (kc k0 kn) (fun _ => p0) (fun _ => p1) fun _ => jn (jbn (jx (jr (js (jadd Z Z (by omega)) (jm Z ?_)))))))))
 refine jn ?_
 exact jag (r + 1,uniS S2 ([((r : Nat) : Int)])) ⟨by dsimp only; omega,by dsimp only; rw [hS3]; rw [if_pos (show b = 0 by omega),if_pos (show b = 0 by omega),uniS_one,List.range_succ,List.map_append]; rfl⟩ (dc d1 (dc d2 (dc d3 dn))) (kd kn) ⟨Z,Z,Z,Z,eqI (by omega),trivial⟩
 refine jsk (jbn (jx (jr (js (jadd Z Z (by omega)) (jm Z (jn ?_))))))
 exact jag (r + 1,S2) ⟨by dsimp only; omega,by dsimp only; rw [hS3]; rw [if_neg (show ¬ b = 0 by omega),if_neg (show ¬ b = 0 by omega)]⟩ (dc d0 (dc d1 (dc d2 dn))) (kd kn) ⟨Z,Z,Z,Z,eqI (by omega),trivial⟩
 refine jex (jtx (jtx (jbh (jx (jq (jr (jm Z (ja Z (jn (jx (jrt ?_)))))))))))
 exact jr1 Z Z g21 Z dn (fun _ hB => kc k1 (klS (by unfold hasE; rw [if_neg (by omega),hS3,hS2,show r = Int.toNat m.Params by omega]) hB k0 kn))
def preP (m : D.MFunc) (b p : Nat) : List (Nat × Nat) := (List.range b).flatMap (fun b => (List.range ((ix m.Blocks b).Ins.length + 1)).map (fun p => (b,p))) ++ (List.range p).map (fun p => (b,p))
theorem preP_next {m : D.MFunc} {b p : Nat} : preP m b (p + 1) = preP m b p ++ [(b,p)] := by
 unfold preP; rw [List.range_succ,List.map_append,List.append_assoc]; rfl
theorem preP_blk {m : D.MFunc} {b : Nat} : preP m (b + 1) 0 = preP m b ((ix m.Blocks b).Ins.length + 1) := by
 unfold preP; rw [List.range_succ,List.flatMap_append]; simp
def stM {σ : Type} (f : σ → Nat → List Int → σ) (m : D.MFunc) (b p : Nat) (s : σ) : σ := (preP m b p).zipIdx.foldl (fun s x => f s x.2 (hasE m x.1.1 x.1.2)) s
theorem stM_next {σ : Type} {f : σ → Nat → List Int → σ} {m : D.MFunc} {b p : Nat} {s : σ} : stM f m b (p + 1) s = f (stM f m b p s) (preP m b p).length (hasE m b p) := by
 unfold stM; rw [preP_next,List.zipIdx_append,List.foldl_append]; simp
theorem stM_blk {σ : Type} {f : σ → Nat → List Int → σ} {m : D.MFunc} {b : Nat} {s : σ} : stM f m (b + 1) 0 s = stM f m b ((ix m.Blocks b).Ins.length + 1) s := by unfold stM; rw [preP_blk]
theorem preP_len {m : D.MFunc} {b p : Nat} : (preP m b (p + 1)).length = (preP m b p).length + 1 := by rw [preP_next]; simp
theorem preP_bd {m : D.MFunc} (h : ∀ b,b < m.Blocks.length → (ix m.Blocks b).Ins.length < 1000000) : ∀ {b : Nat},b ≤ m.Blocks.length → (preP m b 0).length ≤ 1000000 * b
 | 0,_ => by simp [preP]
 | b + 1,hb => by
   have h1 := preP_bd h (b := b) (by omega)
   have h2 := h b (by omega)
   have h3 : ∀ p,(preP m b p).length = (preP m b 0).length + p := fun p => by
     induction p with
     | zero => rfl
     | succ p ih => rw [preP_len,ih]; omega
   rw [preP_blk,h3]; omega
theorem preP_bd2 {m : D.MFunc} (h : ∀ b,b < m.Blocks.length → (ix m.Blocks b).Ins.length < 1000000) {b p : Nat} (hb : b < m.Blocks.length) (hp : p ≤ 1000000) (hn : m.Blocks.length ≤ 512) : (preP m b p).length ≤ 1000000000 := by
 have h1 := preP_bd h (b := b) (by omega)
 have h3 : ∀ p,(preP m b p).length = (preP m b 0).length + p := fun p => by
   induction p with
   | zero => rfl
   | succ p ih => rw [preP_len,ih]; omega
 rw [h3]; omega
def mostS (s : Int) (_ : Nat) (S : List Int) : Int := max s S.length
def togS (a b : Int) (s : Bool) (_ : Nat) (S : List Int) : Bool := s || (decide (a ∈ S) && decide (b ∈ S))
def mostM (m : D.MFunc) : Int := if rightM m = true then stM mostS m m.Blocks.length 0 0 else 0
def togM (m : D.MFunc) (a b : Int) : Bool := if rightM m = true then stM (togS a b) m m.Blocks.length 0 false else false
structure D.Range where
 From : Int
 To : Int
deriving DecidableEq
instance : Inhabited D.Range := ⟨⟨0,0⟩⟩
def rRange : Rp D.Range := rM (rP (rI .i64) (rI .i64)) (fun m => (m.From,m.To))
theorem rRange.at_From {F : PH} {b o : Nat} {m : D.Range} (h : At F rRange b o m) : At F (rI .i64) b (o + 0) m.From := At.part 0 h (Nat.le_of_ble_eq_true rfl) (fun _ h => h.1)
theorem rRange.at_To {F : PH} {b o : Nat} {m : D.Range} (h : At F rRange b o m) : At F (rI .i64) b (o + 1) m.To := At.part 1 h (Nat.le_of_ble_eq_true rfl) (fun _ h => h.2)
theorem rRange.open {F : PH} {v : Value} {m : D.Range} (h : rRange.ra F v m) : v = .agg #[.int .i64 m.From,.int .i64 m.To] := by
 obtain ⟨l,rfl,hl,h⟩ := h
 match l,hl with
 | [a0,a1],_ =>
   obtain ⟨⟨h0,_⟩,⟨h1,_⟩⟩ := h
   obtain rfl : a0 = _ := h0
   obtain rfl : a1 = _ := h1
   exact rfl
theorem rRange.mk {F : PH} {m : D.Range}   (w0 : IntKind.i64.wrap m.From = m.From) (w1 : IntKind.i64.wrap m.To = m.To) : rRange.ra F (.agg #[.int .i64 m.From,.int .i64 m.To]) m := ⟨[.int .i64 m.From,.int .i64 m.To],rfl,rfl,⟨⟨rfl,w0⟩,⟨rfl,w1⟩⟩⟩
structure D.Bo9 where
 In : List (List Int)
 Out : List (List Int)
deriving DecidableEq
instance : Inhabited D.Bo9 := ⟨⟨[],[]⟩⟩
def rBo9N (N : Nat) : Rp D.Bo9 := rM (rP (rLn N (rLn N (rI .i64))) (rLn N (rLn N (rI .i64)))) (fun m => (m.In,m.Out))
abbrev rBo9 : Rp D.Bo9 := rBo9N 1073741824
theorem rBo9.at_In {N : Nat} {F : PH} {b o : Nat} {m : D.Bo9} (h : At F (rBo9N N) b o m) : At F (rLn N (rLn N (rI .i64))) b (o + 0) m.In := At.part 0 h (Nat.le_of_ble_eq_true rfl) (fun _ h => h.1)
theorem rBo9.any {N : Nat} {F : PH} {v : Value} {m : D.Bo9} (h : (rBo9N N).ra F v m) : ∃ f,(rBo9N N).ok F m f := by obtain ⟨l,_,_,h⟩ := h; exact ⟨_,h⟩
theorem rBo9.open {N : Nat} {F : PH} {v : Value} {m : D.Bo9} (h : (rBo9N N).ra F v m) : ∃ c0 c1,v = .agg #[c0,c1] ∧ (rLn N (rLn N (rI .i64))).rv F c0 m.In ∧ (rLn N (rLn N (rI .i64))).rv F c1 m.Out := by
 obtain ⟨l,rfl,hl,h⟩ := h
 match l,hl with
 | [a0,a1],_ =>
   obtain ⟨h0,h1⟩ := h
   exact ⟨a0,a1,rfl,h0,h1⟩
theorem rBo9.mk {N : Nat} {F : PH} {m : D.Bo9} {c0 : Value} {c1 : Value} (h0 : (rLn N (rLn N (rI .i64))).rv F c0 m.In) (h1 : (rLn N (rLn N (rI .i64))).rv F c1 m.Out)  : (rBo9N N).ra F (.agg #[c0,c1]) m := ⟨[c0,c1],rfl,rfl,⟨h0,h1⟩⟩
@[reducible] def vRange (m : D.Range) (c : Unit) : Value := .agg #[.int .i64 m.From,.int .i64 m.To]
theorem sRange : Sr rRange vRange := ⟨fun h => ⟨(),rRange.open h⟩⟩
theorem rRange.A_From {Γ : List Dt} {L : List Res} {b o : Nat} {m : D.Range} (h : Nd Γ L (ad rRange b o m)) : Nd Γ L (ad (rI .i64) b (o + 0) m.From) := fun F H x y z => rRange.at_From (h F H x y z)
theorem rRange.A_To {Γ : List Dt} {L : List Res} {b o : Nat} {m : D.Range} (h : Nd Γ L (ad rRange b o m)) : Nd Γ L (ad (rI .i64) b (o + 1) m.To) := fun F H x y z => rRange.at_To (h F H x y z)
theorem rRange.M {Γ : List Dt} {L : List Res} {m : D.Range} {c : Unit}  (w0 : Wr Γ L .i64 m.From) (w1 : Wr Γ L .i64 m.To) : Nd Γ L (da rRange (vRange m c) m) := fun F H x y z => rRange.mk (m := m) (w0 F H x y z) (w1 F H x y z)
@[reducible] def vBo9 (m : D.Bo9) (c : Value × Value) : Value := .agg #[c.1,c.2]
theorem sBo9 {N : Nat} : Sr (rBo9N N) vBo9 := ⟨fun h => by obtain ⟨c0,c1,e,_,_⟩ := rBo9.open h; exact ⟨(c0,c1),e⟩⟩
theorem rBo9.c_In {N : Nat} {Γ : List Dt} {L : List Res} {m : D.Bo9} {c : Value × Value} (h : Nd Γ L (da (rBo9N N) (vBo9 m c) m)) : Nd Γ L (dv (rLn N (rLn N (rI .i64))) c.1 m.In) := fun F H x y z => leaf1 rfl ((ra_ok (h F H x y z)).1) rfl
theorem rBo9.A_In {N : Nat} {Γ : List Dt} {L : List Res} {b o : Nat} {m : D.Bo9} (h : Nd Γ L (ad (rBo9N N) b o m)) : Nd Γ L (ad (rLn N (rLn N (rI .i64))) b (o + 0) m.In) := fun F H x y z => rBo9.at_In (h F H x y z)
theorem rBo9.M {N : Nat} {Γ : List Dt} {L : List Res} {m : D.Bo9} {c : Value × Value} (h0 : Nd Γ L (dv (rLn N (rLn N (rI .i64))) c.1 m.In)) (h1 : Nd Γ L (dv (rLn N (rLn N (rI .i64))) c.2 m.Out))  : Nd Γ L (da (rBo9N N) (vBo9 m c) m) := fun F H x y z => rBo9.mk (m := m) (h0 F H x y z) (h1 F H x y z)
def rngS (r : Int) (l : List D.Range) (n : Nat) (S : List Int) : List D.Range :=
 if r ∈ S then (if 0 < l.length ∧ (ix l (l.length - 1)).To = n then l.set (l.length - 1) { ix l (l.length - 1) with To := (n : Int) + 1 } else l ++ [⟨(n : Int),(n : Int) + 1⟩]) else l
def rangesM (m : D.MFunc) (r : Int) : List D.Range := if rightM m = true then stM (rngS r) m m.Blocks.length 0 [] else []
theorem rngS_len (r : Int) (l : List D.Range) (n : Nat) (S : List Int) : (rngS r l n S).length ≤ l.length + 1 := by
 unfold rngS
 repeat' split
 all_goals simp
theorem stR_len {m : D.MFunc} {r : Int} {b p : Nat} : (stM (rngS r) m b p []).length ≤ (preP m b p).length := by
 unfold stM
 have h : ∀ (q : List ((Nat × Nat) × Nat)) (l : List D.Range),(q.foldl (fun s x => rngS r s x.2 (hasE m x.1.1 x.1.2)) l).length ≤ l.length + q.length := by
   intro q
   induction q with
   | nil => intro l; simp
   | cons x q ih => intro l; have h1 := ih (rngS r l x.2 (hasE m x.1.1 x.1.2)); have h2 := rngS_len r l x.2 (hasE m x.1.1 x.1.2); simp only [List.foldl_cons,List.length_cons]; omega
 have h1 := h (preP m b p).zipIdx []
 simpa using h1
theorem J4 : (Tryz.prog.info? 4).bind (·.zero) = some (.bool false) := by kernel_rfl
theorem most1_ct (n : Int) {a1 : Value} {S0 : List Int} (s : Int) {g2 : Nat} : Tr Tryz.prog 50 #[.int .i64 n,a1,.pointer (some ⟨g2,0,none⟩)] [dv rSet a1 (some S0)] [bx g2 3 [.int .i64 s]] (fun _ : Unit => .tuple #[]) (fun _ => []) (fun _ _ => [bx g2 3 [.int .i64 (max s (S0.length : Int))]]) := by
 refine jenter (args := [.int .i64 n,a1,.pointer (some ⟨g2,0,none⟩)]) Tryz.func50 rfl rfl rfl fun w0 X => ?_
 refine jr (js (jl k0 O3 Z Z) (jm Z (js (jsfl U86 d0 Z) (js (jmax Z Z) (jst k0 Z3 Z Z Z s0 (jn ?_))))))
 exact jd0 Z () Z dn (fun _ _ => (kc k0 kn))
theorem tog1_ct (n : Int) {a1 : Value} {S0 : List Int} (s : Bool) {g2 : Nat} (a : Int) {g3 : Nat} (b : Int) {g4 : Nat} : Tr Tryz.prog 48 #[.int .i64 n,a1,.pointer (some ⟨g2,0,none⟩),.pointer (some ⟨g3,0,none⟩),.pointer (some ⟨g4,0,none⟩)] [dv rSet a1 (some S0)] [bx g2 4 [.bool s],bx g3 3 [.int .i64 a],bx g4 3 [.int .i64 b]] (fun _ : Unit => .tuple #[]) (fun _ => []) (fun _ _ => [bx g2 4 [.bool (s || (decide (a ∈ S0) && decide (b ∈ S0)))],bx g3 3 [.int .i64 a],bx g4 3 [.int .i64 b]]) := by
 refine jenter (args := [.int .i64 n,a1,.pointer (some ⟨g2,0,none⟩),.pointer (some ⟨g3,0,none⟩),.pointer (some ⟨g4,0,none⟩)]) Tryz.func48 rfl rfl rfl fun w0 X => ?_
 refine jr (js (jl k0 O4 Z Z) (jm Z (jg Z Z (.f _) (fun hg => jmv Z) (jg Z Z (.f _) (fun hg => jl k1 O3 Z Z) (jg Z Z (.f _) (fun hg => jsfk U86 U3 J4 d0 (evg Z hg) (evg Z hg)) (jg Z Z (.f _) (fun hg => jmv (evg Z hg)) (jg Z Z (.gt _ _) (fun hg => jmv Z) (jg Z Z (.gt _ _) (fun hg => jl k2 O3 Z Z) (jg Z Z (.gt _ _) (fun hg => jsfk U86 U3 J4 d0 (evg Z hg) (evg Z hg)) (jg Z Z (.f _) (fun hg => jand2 hg Z Z) (js (jor Z Z) ?_)))))))))))
 refine jst k0 Z4 Z Z Z s0 (jn ?_)
 exact jd0 Z () Z dn (fun _ _ => (kd (kc k0 kn)))
abbrev U44 := @Tryz.underlying44
theorem E47 : Ent Tryz.prog 47 := ⟨_,Tryz.func47,by kernel_rfl,by kernel_rfl⟩
theorem E48 : Ent Tryz.prog 48 := ⟨_,Tryz.func48,by kernel_rfl,by kernel_rfl⟩
theorem E50 : Ent Tryz.prog 50 := ⟨_,Tryz.func50,by kernel_rfl,by kernel_rfl⟩
theorem E71 : Ent Tryz.prog 71 := ⟨_,Tryz.func71,by kernel_rfl,by kernel_rfl⟩
theorem F47_1 : Fld Tryz.prog 47 1 1 := ⟨_,_,Tryz.underlying47,rfl,rfl,1,(by unfold Sz; kernel_rfl),by decide⟩
theorem I47 : (Tryz.prog.info? 47).map (fun i => (i.zero,i.size,i.bytes)) = some (some (.agg #[.int .i64 0,.int .i64 0]),2,16) := by kernel_rfl
theorem O44 : One Tryz.prog 44 := ⟨_,Tryz.underlying44,rfl⟩
theorem Z44 : Sz Tryz.prog 44 1 := by unfold Sz; kernel_rfl
theorem Z47 : Sz Tryz.prog 47 2 := by unfold Sz; kernel_rfl
theorem rRange.S_To {Γ : List Dt} {L : List Res} {m : D.Range} {x : Int} (h : Wr Γ L .i64 x) : PO Γ L rRange m 1 [.int .i64 x] { m with To := x } := fun F H a b c f hf => ⟨⟨hf.1.1,hf.1.2⟩,⟨rfl,h F H a b c⟩⟩
theorem rng1_ct (n : Nat) {a1 : Value} {S0 : List Int} {sv : Value} {l : List D.Range} {g2 : Nat} {B2 : Nat} (r : Int) {g3 : Nat} (hnb : n ≤ 1000000000) (hlb : l.length ≤ 1000000000) : Tr Tryz.prog 47 #[.int .i64 (n : Nat),a1,.pointer (some ⟨g2,0,none⟩),.pointer (some ⟨g3,0,none⟩)] [dv rSet a1 (some S0)] [gl B2 rRange 47 sv l,bx g2 44 [sv],bx g3 3 [.int .i64 r]] (fun _ : Value => .tuple #[]) (fun _ => []) (fun _ v => [gl B2 rRange 47 v (rngS r l n S0),bx g2 44 [v],bx g3 3 [.int .i64 r]]) := by
 refine jenter (args := [.int .i64 (n : Nat),a1,.pointer (some ⟨g2,0,none⟩),.pointer (some ⟨g3,0,none⟩)]) Tryz.func47 rfl rfl rfl fun w0 X => ?_
 refine cgo k0 fun w1 => jq (jr (js (jl k1 O44 Z Z) (js (jlg U44 k0 Z) (js (jsub Z Z (by omega)) (ja Z (jn (jx (jb (jq (jr ?_))))))))))
 refine jm Z (js (jl k2 O3 Z Z) (js (jsfk U86 U3 J4 d0 Z Z) (js (jnot Z) (ja Z (jn (jx ?_))))))
 refine jif Z (fun hc1 => ?_) (fun hc1 => ?_)
 refine jsk (jbn ?_)
 have hR9 : rngS r l n S0 = l := by unfold rngS; first | (rw [if_neg (by simpa using hc1)]; done) | (rw [if_pos (by simpa using hc1),if_pos ⟨by omega,hc2.2⟩]; done) | (rw [if_pos (by simpa using hc1),if_neg (fun h9 => hc2 ⟨by omega,h9.2⟩)]; done) | (rw [if_pos (by simpa using hc1),if_neg (by omega)]; done)
 rw [hR9]
 exact jd0 Z sv Z dn (fun _ _ => (kd (kc k0 kn)))
 refine jq (jr (jm Z (js (jgeq Z Z) (jm Z (jg Z Z (.t _) (fun hg => jl k1 O44 Z Z) (jg Z Z (.t _) (fun hg => jmv Z) (jg Z Z (.t _) (fun hg => jig (i := (l.length - 1)) U44 Z47 k0 (evg Z hg) (evg Z hg) (by first | omega | (simp at hg; omega)) (by first | omega | (simp at hg; omega) | (simp only [List.length_set]; omega))) (jg Z Z (.t _) (fun hg => jf F47_1 (evg Z hg)) (jg Z Z (.t _) (fun hg => jgF (i := (l.length - 1)) (off := 1) (n := (ix l (l.length - 1)).To) k0 (by first | omega | (simp at hg; omega)) (fun _ _ h => (h.2).1) O3 (evg Z hg)) (jg Z Z (.t _) (fun hg => jmv Z) (jg Z Z (.t _) (fun hg => jeql (evg Z hg) (evg Z hg)) ?_)))))))))))
 refine js (jand Z Z) (ja Z (jn (jx ?_)))
 refine jif Z (fun hc2 => ?_) (fun hc2 => ?_)
 refine jr (js (jl k1 O44 Z Z) (jm Z (jm Z (js (jadd Z Z (by omega)) (js (jig (i := (l.length - 1)) U44 Z47 k0 Z Z (by omega) (by omega)) (js (jf F47_1 Z) (jsp (i := (l.length - 1)) (off := 1) (a := { ix l (l.length - 1) with To := ↑n + 1 }) k0 (by omega) Z3 Z (by omega) Z Z (rRange.S_To (wp (IntWalk.i64_in _ (by omega)))) (jn (jbn ?_)))))))))
 have hR9 : rngS r l n S0 = List.set l (l.length - 1) ({ ix l (l.length - 1) with To := ↑n + 1 }) := by unfold rngS; first | (rw [if_neg (by simpa using hc1)]; done) | (rw [if_pos (by simpa using hc1),if_pos ⟨by omega,hc2.2⟩]; done) | (rw [if_pos (by simpa using hc1),if_neg (fun h9 => hc2 ⟨by omega,h9.2⟩)]; done) | (rw [if_pos (by simpa using hc1),if_neg (by omega)]; done)
 rw [hR9]
 exact jd0 Z sv Z dn (fun _ _ => (kd (kc k0 kn)))
 refine jr (js (jl k1 O44 Z Z) (jm Z (jm Z (js (jadd Z Z (by omega)) (js (jbu (v := .agg #[.int .i64 (↑n),.int .i64 (↑n + 1)]) Z (fun _ => by kernel_rfl)) (jap U44 I47 (by decide) Z k0 Z (rRange.M (m := ⟨↑n,↑n + 1⟩) (c := ()) (wp (IntWalk.i64_in ↑n (by omega))) (wp (IntWalk.i64_in (↑n + 1) (by omega)))) (by omega) (fun _ => Z) fun v16 _ w2 => jst k1 Z44 Z Z w2.one s0 (jn (jbn ?_))))))))
 have hR9 : rngS r l n S0 = l ++ [⟨↑n,↑n + 1⟩] := by unfold rngS; first | (rw [if_neg (by simpa using hc1)]; done) | (rw [if_pos (by simpa using hc1),if_pos ⟨by omega,hc2.2⟩]; done) | (rw [if_pos (by simpa using hc1),if_neg (fun h9 => hc2 ⟨by omega,h9.2⟩)]; done) | (rw [if_pos (by simpa using hc1),if_neg (by omega)]; done)
 rw [hR9]
 exact jd0 Z v16 Z dn (fun _ _ => (kc k1 (kd kn)))
theorem eachMost_ct {g0 : Nat} {bv ev pv : Value} {m : D.MFunc} (s0 : Int) {h0 : Nat} (hr : rightM m = true) : Tr Tryz.prog 46 #[.pointer (some ⟨g0,0,none⟩),.func (.func 50) #[] #[.pointer (some ⟨h0,0,none⟩)]] [dv (rL rMBlock) bv m.Blocks,dv (rL rSet) ev (List.map some (loE m.Blocks)),dv (rL (rL rSet)) pv (plM m.Blocks)] [bx g0 90 [.int .i64 m.Params,bv,ev,pv],bx h0 3 [.int .i64 s0]] (fun _ : Unit => .tuple #[]) (fun _ => []) (fun _ _ => [bx g0 90 [.int .i64 m.Params,bv,ev,pv],bx h0 3 [.int .i64 (stM mostS m m.Blocks.length 0 s0)]]) := by
 refine jenter (args := [.pointer (some ⟨g0,0,none⟩),.func (.func 50) #[] #[.pointer (some ⟨h0,0,none⟩)]]) Tryz.func46 rfl rfl rfl fun w0 X => ?_
 have hw := right_wl hr
 have hq := right_ins hr
 have hn0 := (right_wf hr).n0
 have hple := plM_len (bs := m.Blocks)
 refine jq (jr (ja Z (jn (jx (jq (jr (jm Z (js (jnil Z) (js (jf F90_2 Z) (js (jl k0 O88 Z Z) (jdq d2 fun q1 w1 => ?_)))))))))))
 refine js (jln U88 d2 Z) (jm Z (jn (jx (jb ?_))))
 have h00 : (preP m 0 0).length = 0 := rfl
 refine jlp (u2 fun (b : Nat) (s : Int) => ⟨b ≤ m.Blocks.length ∧ s = stM (mostS) m b 0 s0,[dv (rL rMBlock) bv m.Blocks,dv (rL rSet) ev (List.map some (loE m.Blocks)),dv (rL (rL rSet)) pv (plM m.Blocks)],[bx g0 90 [.int .i64 m.Params,bv,ev,pv],bx h0 3 [.int .i64 s]],[(0,.pointer (some ⟨g0,0,none⟩)),(1,.func (.func 50) #[] #[.pointer (some ⟨h0,0,none⟩)]),(4,.int .i64 (↑(preP m b 0).length)),(11,.int .i64 (↑(List.length (plM m.Blocks)))),(12,.int .i64 (↑b))],m.Blocks.length - b⟩) (0,s0) ⟨by dsimp only; omega,rfl⟩ (dc d0 (dc d1 (dc d2 dn))) (kd kn) ⟨Z,Z,eqI (by dsimp only; omega),Z,eqI (by omega),trivial⟩ ?_
 rintro ⟨b,s⟩; dsimp only [u2]; rintro ⟨hb,hs⟩
 refine jq (jr (js (jlss Z Z) (jn (jx (jq ?_)))))
 refine jif Z (fun hc1 => ?_) (fun hc1 => ?_)
 refine jsk (jx (jq (jb (jq (jr (jm Z (ja Z (jn (jx (jq (jr ?_)))))))))))
 refine jm Z (js (jnil Z) (js (jf F90_2 Z) (js (jl k0 O88 Z Z) (jm Z (js (jix U88 Z87 d2 Z Z Z (by omega)) (jev (jlV (dix d2 b (by omega)) O87 Z Z) fun v21 q2 w2 => js (jln U87 d0 Z) (jm Z (jn (jx (jb ?_))))))))))
 have hbb : b < m.Blocks.length := by omega
 have hqb := hq b hbb
 have hpll := pl_len (bs := m.Blocks) hbb
 refine jlp (u2 fun (p : Nat) (s2 : Int) => ⟨p ≤ (ix m.Blocks b).Ins.length + 1 ∧ s2 = stM (mostS) m b p s0,[dv (rL rMBlock) bv m.Blocks,dv (rL rSet) ev (List.map some (loE m.Blocks)),dv (rL (rL rSet)) pv (plM m.Blocks)],[bx g0 90 [.int .i64 m.Params,bv,ev,pv],bx h0 3 [.int .i64 s2]],[(0,.pointer (some ⟨g0,0,none⟩)),(1,.func (.func 50) #[] #[.pointer (some ⟨h0,0,none⟩)]),(4,.int .i64 (↑(preP m b p).length)),(5,.int .i64 (↑b)),(11,.int .i64 (↑(List.length (plM m.Blocks)))),(12,.int .i64 (↑b)),(22,.int .i64 (↑(List.length (ix (plM m.Blocks) b)))),(23,.int .i64 (↑p))],(ix m.Blocks b).Ins.length + 1 - p⟩) (0,s) ⟨by dsimp only; omega,hs⟩ (dc d1 (dc d2 (dc d3 dn))) (kd kn) ⟨Z,Z,Z,Z,Z,Z,Z,eqI (by omega),trivial⟩ ?_
 rintro ⟨p,s2⟩; dsimp only [u2]; rintro ⟨hp,hs2⟩
 have hpb := preP_bd2 hq (b := b) (p := p) hbb (by omega) (by omega)
 refine jq (jr (js (jlss Z Z) (jn (jx (jq ?_)))))
 refine jif Z (fun hc2 => ?_) (fun hc2 => ?_)
 have hpp : p ≤ (ix m.Blocks b).Ins.length := by omega
 refine jsk (jx (jq (jb (jq (jr (jm Z (ja Z (jn (jx (jq (jr ?_)))))))))))
 refine jm Z (jm Z (jm Z (jm Z (jm Z (jc E71 Z Z (liveHas_ct (m := m) b p hr hbb hpp) (dc d0 (dc d1 (dc d2 dn))) (kc k0 kn) (fun _ => p0) (fun _ => p2) fun g31 => jfs k1 (jc E50 Z Z (most1_ct _ _) (dc d0 dn) (kc k1 kn) (fun _ => p0) (fun _ => p1) fun _ => jn (jx (jr (jm Z ?_)))))))))
 refine js (jadd Z Z (by omega)) (ja Z (jn (jbn (jx (jr (js (jadd Z Z (by omega)) (jm Z (jn ?_))))))))
 have hpl := preP_len (m := m) (b := b) (p := p)
 exact jag (p + 1,max s2 ((hasE m b p).length : Int)) ⟨by dsimp only; omega,by dsimp only; rw [stM_next,← hs2]; try rfl⟩ (dc d1 (dc d2 (dc d3 dn))) (kc k1 (kc k0 kn)) ⟨Z,Z,eqI (by dsimp only; omega),Z,Z,Z,Z,eqI (by omega),trivial⟩
 refine jex (jtx (jtx (jbh (jbn (jx (jr (js (jadd Z Z (by omega)) (jm Z (jn ?_)))))))))
 have hpe : p = (ix m.Blocks b).Ins.length + 1 := by omega
 have hpl : (preP m (b + 1) 0).length = (preP m b p).length := by rw [preP_blk,hpe]
 exact jag (b + 1,s2) ⟨by dsimp only; omega,by dsimp only; rw [stM_blk,← hpe]; exact hs2⟩ (dc d0 (dc d1 (dc d2 dn))) (kd kn) ⟨Z,Z,eqI (by dsimp only; omega),Z,eqI (by omega),trivial⟩
 refine jex (jtx (jtx (jbh ?_)))
 have hb9 : b = m.Blocks.length := by omega
 subst hb9
 subst hs
 exact jd0 Z () Z dn (fun _ _ => (kd kn))
theorem eachTog_ct {g0 : Nat} {bv ev pv : Value} {m : D.MFunc} (s0 : Bool) {h0 : Nat} (a : Int) {h1 : Nat} (c : Int) {h2 : Nat} (hr : rightM m = true) : Tr Tryz.prog 46 #[.pointer (some ⟨g0,0,none⟩),.func (.func 48) #[] #[.pointer (some ⟨h0,0,none⟩),.pointer (some ⟨h1,0,none⟩),.pointer (some ⟨h2,0,none⟩)]] [dv (rL rMBlock) bv m.Blocks,dv (rL rSet) ev (List.map some (loE m.Blocks)),dv (rL (rL rSet)) pv (plM m.Blocks)] [bx g0 90 [.int .i64 m.Params,bv,ev,pv],bx h0 4 [.bool s0],bx h1 3 [.int .i64 a],bx h2 3 [.int .i64 c]] (fun _ : Unit => .tuple #[]) (fun _ => []) (fun _ _ => [bx g0 90 [.int .i64 m.Params,bv,ev,pv],bx h0 4 [.bool (stM (togS a c) m m.Blocks.length 0 s0)],bx h1 3 [.int .i64 a],bx h2 3 [.int .i64 c]]) := by
 refine jenter (args := [.pointer (some ⟨g0,0,none⟩),.func (.func 48) #[] #[.pointer (some ⟨h0,0,none⟩),.pointer (some ⟨h1,0,none⟩),.pointer (some ⟨h2,0,none⟩)]]) Tryz.func46 rfl rfl rfl fun w0 X => ?_
 have hw := right_wl hr
 have hq := right_ins hr
 have hn0 := (right_wf hr).n0
 have hple := plM_len (bs := m.Blocks)
 refine jq (jr (ja Z (jn (jx (jq (jr (jm Z (js (jnil Z) (js (jf F90_2 Z) (js (jl k0 O88 Z Z) (jdq d2 fun q1 w1 => ?_)))))))))))
 refine js (jln U88 d2 Z) (jm Z (jn (jx (jb ?_))))
 have h00 : (preP m 0 0).length = 0 := rfl
 refine jlp (u2 fun (b : Nat) (s : Bool) => ⟨b ≤ m.Blocks.length ∧ s = stM (togS a c) m b 0 s0,[dv (rL rMBlock) bv m.Blocks,dv (rL rSet) ev (List.map some (loE m.Blocks)),dv (rL (rL rSet)) pv (plM m.Blocks)],[bx g0 90 [.int .i64 m.Params,bv,ev,pv],bx h0 4 [.bool s],bx h1 3 [.int .i64 a],bx h2 3 [.int .i64 c]],[(0,.pointer (some ⟨g0,0,none⟩)),(1,.func (.func 48) #[] #[.pointer (some ⟨h0,0,none⟩),.pointer (some ⟨h1,0,none⟩),.pointer (some ⟨h2,0,none⟩)]),(4,.int .i64 (↑(preP m b 0).length)),(11,.int .i64 (↑(List.length (plM m.Blocks)))),(12,.int .i64 (↑b))],m.Blocks.length - b⟩) (0,s0) ⟨by dsimp only; omega,rfl⟩ (dc d0 (dc d1 (dc d2 dn))) (kd (kd kn)) ⟨Z,Z,eqI (by dsimp only; omega),Z,eqI (by omega),trivial⟩ ?_
 rintro ⟨b,s⟩; dsimp only [u2]; rintro ⟨hb,hs⟩
 refine jq (jr (js (jlss Z Z) (jn (jx (jq ?_)))))
 refine jif Z (fun hc1 => ?_) (fun hc1 => ?_)
 refine jsk (jx (jq (jb (jq (jr (jm Z (ja Z (jn (jx (jq (jr ?_)))))))))))
 refine jm Z (js (jnil Z) (js (jf F90_2 Z) (js (jl k0 O88 Z Z) (jm Z (js (jix U88 Z87 d2 Z Z Z (by omega)) (jev (jlV (dix d2 b (by omega)) O87 Z Z) fun v21 q2 w2 => js (jln U87 d0 Z) (jm Z (jn (jx (jb ?_))))))))))
 have hbb : b < m.Blocks.length := by omega
 have hqb := hq b hbb
 have hpll := pl_len (bs := m.Blocks) hbb
 refine jlp (u2 fun (p : Nat) (s2 : Bool) => ⟨p ≤ (ix m.Blocks b).Ins.length + 1 ∧ s2 = stM (togS a c) m b p s0,[dv (rL rMBlock) bv m.Blocks,dv (rL rSet) ev (List.map some (loE m.Blocks)),dv (rL (rL rSet)) pv (plM m.Blocks)],[bx g0 90 [.int .i64 m.Params,bv,ev,pv],bx h0 4 [.bool s2],bx h1 3 [.int .i64 a],bx h2 3 [.int .i64 c]],[(0,.pointer (some ⟨g0,0,none⟩)),(1,.func (.func 48) #[] #[.pointer (some ⟨h0,0,none⟩),.pointer (some ⟨h1,0,none⟩),.pointer (some ⟨h2,0,none⟩)]),(4,.int .i64 (↑(preP m b p).length)),(5,.int .i64 (↑b)),(11,.int .i64 (↑(List.length (plM m.Blocks)))),(12,.int .i64 (↑b)),(22,.int .i64 (↑(List.length (ix (plM m.Blocks) b)))),(23,.int .i64 (↑p))],(ix m.Blocks b).Ins.length + 1 - p⟩) (0,s) ⟨by dsimp only; omega,hs⟩ (dc d1 (dc d2 (dc d3 dn))) (kd (kd kn)) ⟨Z,Z,Z,Z,Z,Z,Z,eqI (by omega),trivial⟩ ?_
 rintro ⟨p,s2⟩; dsimp only [u2]; rintro ⟨hp,hs2⟩
 have hpb := preP_bd2 hq (b := b) (p := p) hbb (by omega) (by omega)
 refine jq (jr (js (jlss Z Z) (jn (jx (jq ?_)))))
 refine jif Z (fun hc2 => ?_) (fun hc2 => ?_)
 have hpp : p ≤ (ix m.Blocks b).Ins.length := by omega
 refine jsk (jx (jq (jb (jq (jr (jm Z (ja Z (jn (jx (jq (jr ?_)))))))))))
 refine jm Z (jm Z (jm Z (jm Z (jm Z (jc E71 Z Z (liveHas_ct (m := m) b p hr hbb hpp) (dc d0 (dc d1 (dc d2 dn))) (kc k0 kn) (fun _ => p0) (fun _ => p2) fun g31 => jfs k1 (jc E48 Z Z (tog1_ct _ _ _ _) (dc d0 dn) (kc k1 (kc k1 (kc k1 kn))) (fun _ => p0) (fun _ => p3) fun _ => jn (jx (jr (jm Z ?_)))))))))
 refine js (jadd Z Z (by omega)) (ja Z (jn (jbn (jx (jr (js (jadd Z Z (by omega)) (jm Z (jn ?_))))))))
 have hpl := preP_len (m := m) (b := b) (p := p)
 exact jag (p + 1,s2 || (decide (a ∈ hasE m b p) && decide (c ∈ hasE m b p))) ⟨by dsimp only; omega,by dsimp only; rw [stM_next,← hs2]; try rfl⟩ (dc d1 (dc d2 (dc d3 dn))) (kc k3 (kd (kc k0 kn))) ⟨Z,Z,eqI (by dsimp only; omega),Z,Z,Z,Z,eqI (by omega),trivial⟩
 refine jex (jtx (jtx (jbh (jbn (jx (jr (js (jadd Z Z (by omega)) (jm Z (jn ?_)))))))))
 have hpe : p = (ix m.Blocks b).Ins.length + 1 := by omega
 have hpl : (preP m (b + 1) 0).length = (preP m b p).length := by rw [preP_blk,hpe]
 exact jag (b + 1,s2) ⟨by dsimp only; omega,by dsimp only; rw [stM_blk,← hpe]; exact hs2⟩ (dc d0 (dc d1 (dc d2 dn))) (kd (kd kn)) ⟨Z,Z,eqI (by dsimp only; omega),Z,eqI (by omega),trivial⟩
 refine jex (jtx (jtx (jbh ?_)))
 have hb9 : b = m.Blocks.length := by omega
 subst hb9
 subst hs
 exact jd0 Z () Z dn (fun _ _ => (kd (kd kn)))
theorem eachRng_ct {g0 : Nat} {bv ev pv : Value} {m : D.MFunc} {sv : Value} {l0 : List D.Range} {h0 : Nat} {C0 : Nat} (r : Int) {h1 : Nat} (hr : rightM m = true) (hl0 : l0 = []) : Tr Tryz.prog 46 #[.pointer (some ⟨g0,0,none⟩),.func (.func 47) #[] #[.pointer (some ⟨h0,0,none⟩),.pointer (some ⟨h1,0,none⟩)]] [dv (rL rMBlock) bv m.Blocks,dv (rL rSet) ev (List.map some (loE m.Blocks)),dv (rL (rL rSet)) pv (plM m.Blocks)] [bx g0 90 [.int .i64 m.Params,bv,ev,pv],gl C0 rRange 47 sv l0,bx h0 44 [sv],bx h1 3 [.int .i64 r]] (fun _ : Value => .tuple #[]) (fun _ => []) (fun _ v => [bx g0 90 [.int .i64 m.Params,bv,ev,pv],gl C0 rRange 47 v (stM (rngS r) m m.Blocks.length 0 l0),bx h0 44 [v],bx h1 3 [.int .i64 r]]) := by
 refine jenter (args := [.pointer (some ⟨g0,0,none⟩),.func (.func 47) #[] #[.pointer (some ⟨h0,0,none⟩),.pointer (some ⟨h1,0,none⟩)]]) Tryz.func46 rfl rfl rfl fun w0 X => ?_
 refine cgo k1 fun w1 => ?_
 have hw := right_wl hr
 have hq := right_ins hr
 have hn0 := (right_wf hr).n0
 have hple := plM_len (bs := m.Blocks)
 refine jq (jr (ja Z (jn (jx (jq (jr (jm Z (js (jnil Z) (js (jf F90_2 Z) (js (jl k0 O88 Z Z) (jdq d2 fun q2 w2 => ?_)))))))))))
 refine js (jln U88 d2 Z) (jm Z (jn (jx (jb ?_))))
 have h00 : (preP m 0 0).length = 0 := rfl
 refine jlp (u3 fun (b : Nat) (s : List D.Range) (sv1 : Value) => ⟨b ≤ m.Blocks.length ∧ s = stM (rngS r) m b 0 l0,[dv (rL rMBlock) bv m.Blocks,dv (rL rSet) ev (List.map some (loE m.Blocks)),dv (rL (rL rSet)) pv (plM m.Blocks)],[bx g0 90 [.int .i64 m.Params,bv,ev,pv],gl C0 rRange 47 sv1 s,bx h0 44 [sv1],bx h1 3 [.int .i64 r]],[(0,.pointer (some ⟨g0,0,none⟩)),(1,.func (.func 47) #[] #[.pointer (some ⟨h0,0,none⟩),.pointer (some ⟨h1,0,none⟩)]),(4,.int .i64 (↑(preP m b 0).length)),(11,.int .i64 (↑(List.length (plM m.Blocks)))),(12,.int .i64 (↑b))],m.Blocks.length - b⟩) (0,l0,sv) ⟨by dsimp only; omega,rfl⟩ (dc d0 (dc d1 (dc d2 dn))) (kd (kd kn)) ⟨Z,Z,eqI (by dsimp only; omega),Z,eqI (by omega),trivial⟩ ?_
 rintro ⟨b,s,sv1⟩; dsimp only [u3]; rintro ⟨hb,hs⟩
 refine cgo k1 fun w3 => jq (jr (js (jlss Z Z) (jn (jx (jq ?_)))))
 refine jif Z (fun hc1 => ?_) (fun hc1 => ?_)
 refine jsk (jx (jq (jb (jq (jr (jm Z (ja Z (jn (jx (jq (jr ?_)))))))))))
 refine jm Z (js (jnil Z) (js (jf F90_2 Z) (js (jl k0 O88 Z Z) (jm Z (js (jix U88 Z87 d2 Z Z Z (by omega)) (jev (jlV (dix d2 b (by omega)) O87 Z Z) fun v21 q4 w4 => js (jln U87 d0 Z) (jm Z (jn (jx (jb ?_))))))))))
 have hbb : b < m.Blocks.length := by omega
 have hqb := hq b hbb
 have hpll := pl_len (bs := m.Blocks) hbb
 refine jlp (u3 fun (p : Nat) (s2 : List D.Range) (sv2 : Value) => ⟨p ≤ (ix m.Blocks b).Ins.length + 1 ∧ s2 = stM (rngS r) m b p l0,[dv (rL rMBlock) bv m.Blocks,dv (rL rSet) ev (List.map some (loE m.Blocks)),dv (rL (rL rSet)) pv (plM m.Blocks)],[bx g0 90 [.int .i64 m.Params,bv,ev,pv],gl C0 rRange 47 sv2 s2,bx h0 44 [sv2],bx h1 3 [.int .i64 r]],[(0,.pointer (some ⟨g0,0,none⟩)),(1,.func (.func 47) #[] #[.pointer (some ⟨h0,0,none⟩),.pointer (some ⟨h1,0,none⟩)]),(4,.int .i64 (↑(preP m b p).length)),(5,.int .i64 (↑b)),(11,.int .i64 (↑(List.length (plM m.Blocks)))),(12,.int .i64 (↑b)),(22,.int .i64 (↑(List.length (ix (plM m.Blocks) b)))),(23,.int .i64 (↑p))],(ix m.Blocks b).Ins.length + 1 - p⟩) (0,s,sv1) ⟨by dsimp only; omega,hs⟩ (dc d1 (dc d2 (dc d3 dn))) (kd (kd kn)) ⟨Z,Z,Z,Z,Z,Z,Z,eqI (by omega),trivial⟩ ?_
 rintro ⟨p,s2,sv2⟩; dsimp only [u3]; rintro ⟨hp,hs2⟩
 refine cgo k1 fun w6 => ?_
 have hpb := preP_bd2 hq (b := b) (p := p) hbb (by omega) (by omega)
 refine jq (jr (js (jlss Z Z) (jn (jx (jq ?_)))))
 refine jif Z (fun hc2 => ?_) (fun hc2 => ?_)
 have hpp : p ≤ (ix m.Blocks b).Ins.length := by omega
 refine jsk (jx (jq (jb (jq (jr (jm Z (ja Z (jn (jx (jq (jr ?_)))))))))))
 refine jm Z (jm Z (jm Z (jm Z (jm Z (jc E71 Z Z (liveHas_ct (m := m) b p hr hbb hpp) (dc d0 (dc d1 (dc d2 dn))) (kc k0 kn) (fun _ => p0) (fun _ => p2) fun g31 => jfs k1 (jc E47 Z Z (rng1_ct _ _ hpb (by rw [hs2,hl0]; exact Nat.le_trans stR_len hpb)) (dc d0 dn) (kc k1 (kc k1 (kc k1 kn))) (fun _ => p0) (fun _ => p3) fun sw8 => jn (jx (jr (jm Z ?_)))))))))
 refine js (jadd Z Z (by omega)) (ja Z (jn (jbn (jx (jr (js (jadd Z Z (by omega)) (jm Z (jn ?_))))))))
 have hpl := preP_len (m := m) (b := b) (p := p)
 exact jag (p + 1,rngS r s2 (preP m b p).length (hasE m b p),sw8) ⟨by dsimp only; omega,by dsimp only; rw [stM_next,← hs2]; try rfl⟩ (dc d1 (dc d2 (dc d3 dn))) (kc k3 (kd (kc k0 kn))) ⟨Z,Z,eqI (by dsimp only; omega),Z,Z,Z,Z,eqI (by omega),trivial⟩
 refine jex (jtx (jtx (jbh (jbn (jx (jr (js (jadd Z Z (by omega)) (jm Z (jn ?_)))))))))
 have hpe : p = (ix m.Blocks b).Ins.length + 1 := by omega
 have hpl : (preP m (b + 1) 0).length = (preP m b p).length := by rw [preP_blk,hpe]
 exact jag (b + 1,s2,sv2) ⟨by dsimp only; omega,by dsimp only; rw [stM_blk,← hpe]; exact hs2⟩ (dc d0 (dc d1 (dc d2 dn))) (kd (kd kn)) ⟨Z,Z,eqI (by dsimp only; omega),Z,eqI (by omega),trivial⟩
 refine jex (jtx (jtx (jbh ?_)))
 have hb9 : b = m.Blocks.length := by omega
 subst hb9
 subst hs
 exact jd0 Z sv1 Z dn (fun _ _ => (kd (kd kn)))
theorem E46 : Ent Tryz.prog 46 := ⟨_,Tryz.func46,by kernel_rfl,by kernel_rfl⟩
theorem J3 : (Tryz.prog.info? 3).bind (·.zero) = some (.int .i64 0) := by kernel_rfl
theorem J44 : (Tryz.prog.info? 44).bind (·.zero) = some (.slice none 0 0) := by kernel_rfl
theorem most_ct {a0 : Value} {m : D.MFunc} : Tv Tryz.prog 24 #[vMFunc m a0] [da rMFunc (vMFunc m a0) m] [] (.int .i64 (mostM m)) := by
 refine jenter (args := [vMFunc m a0]) Tryz.func24 rfl rfl rfl fun w0 X => ?_
 refine jq (jr (jbox Z Z fun g1 => ja Z (jn (jx (jq (jr (jalc J3 Z fun g3 => jst k0 Z3 Z Z Z s0 (jn (jx ?_)))))))))
 refine jq (jq (jr (js (jla k1 A28 Z28 Z Z Z) ?_)))
 refine Bool.casesOn (motive := fun b => rightM m = b → _) (rightM m) (fun hr => ?_) (fun hr => ?_) rfl
 refine jc E40 Z Z (of_no hr) (dc d0 dn) kn (fun _ => p0) (fun _ => p0) fun _ => ja Z (jn (jx (jq (jr (jm Z (js (jneqP U91 Z Z) (jn (jx ?_))))))))
 refine jif Z (fun hc1 => ?_) (fun hc1 => ?_)
 exact absurd hc1 (by simp)
 refine jsk (jx (jq (jr (js (jl k0 O3 Z Z) (ja Z (jn (jx (jrt ?_))))))))
 exact jrI Z Z (by first | (rw [mostM,if_pos hr]; done) | (rw [mostM,if_neg (by simp [hr])]; done))
 refine jc E40 Z Z (of_ct hr) (dc d0 dn) kn (fun _ => p2) (fun _ => p1) fun c6 => ?_
 have hw := right_wl hr
 have hq := right_ins hr
 have hn0 := (right_wf hr).n0
 have hnP := (right_wf hr).p0
 have hple := plM_len (bs := m.Blocks)
 have hlol := loE_len hw
 have hlm : (List.map some (loE m.Blocks)).length = m.Blocks.length := by rw [List.length_map]; exact hlol
 refine ja Z (jn (jx (jq (jr (jm Z (js (jneqP U91 Z Z) (jn (jx ?_))))))))
 refine jif Z (fun hc2 => ?_) (fun hc2 => ?_)
 refine jr (jm Z (js (jmf1 Z) (jc E46 Z Z (eachMost_ct 0 hr) (dc (rMFunc.cB d2) (dc d0 (dc d1 dn))) (kd kn) (fun _ => p0) (fun _ => p2) fun _ => jn (jx (jq (jr (js (jl k1 O3 Z Z) (ja Z (jn (jx ?_))))))))))
 refine jrt ?_
 exact jrI Z Z (by first | (rw [mostM,if_pos hr]; done) | (rw [mostM,if_neg (by simp [hr])]; done))
 exact absurd hc2 (by simp)
theorem together_ct {a0 : Value} {m : D.MFunc} (a : Int) (b : Int) : Tv Tryz.prog 22 #[vMFunc m a0,.int .i64 a,.int .i64 b] [da rMFunc (vMFunc m a0) m] [] (.bool (togM m a b)) := by
 refine jenter (args := [vMFunc m a0,.int .i64 a,.int .i64 b]) Tryz.func22 rfl rfl rfl fun w0 X => ?_
 refine jq (jr (jbox Z Z fun g3 => jbox Z Z fun g4 => jbox Z Z fun g5 => ja Z (jn (jx (jq (jr (jalc J4 Z fun g7 => jst k0 Z4 Z Z Z s0 ?_)))))))
 refine jn (jx (jq (jq (jr (js (jla k3 A28 Z28 Z Z Z) ?_)))))
 refine Bool.casesOn (motive := fun b => rightM m = b → _) (rightM m) (fun hr => ?_) (fun hr => ?_) rfl
 refine jc E40 Z Z (of_no hr) (dc d0 dn) kn (fun _ => p0) (fun _ => p0) fun _ => ja Z (jn (jx (jq (jr (jm Z (js (jneqP U91 Z Z) (jn (jx ?_))))))))
 refine jif Z (fun hc1 => ?_) (fun hc1 => ?_)
 exact absurd hc1 (by simp)
 refine jsk (jx (jq (jr (js (jl k0 O4 Z Z) (ja Z (jn (jx (jrt ?_))))))))
 exact jrB Z Z (by first | (rw [togM,if_pos hr]; done) | (rw [togM,if_neg (by simp [hr])]; done))
 refine jc E40 Z Z (of_ct hr) (dc d0 dn) kn (fun _ => p2) (fun _ => p1) fun c10 => ?_
 have hw := right_wl hr
 have hq := right_ins hr
 have hn0 := (right_wf hr).n0
 have hnP := (right_wf hr).p0
 have hple := plM_len (bs := m.Blocks)
 have hlol := loE_len hw
 have hlm : (List.map some (loE m.Blocks)).length = m.Blocks.length := by rw [List.length_map]; exact hlol
 refine ja Z (jn (jx (jq (jr (jm Z (js (jneqP U91 Z Z) (jn (jx ?_))))))))
 refine jif Z (fun hc2 => ?_) (fun hc2 => ?_)
 refine jr (jm Z (js (jmf3 Z Z Z) (jc E46 Z Z (eachTog_ct false a b hr) (dc (rMFunc.cB d2) (dc d0 (dc d1 dn))) (kd (kc k1 (kc k0 kn))) (fun _ => p0) (fun _ => p4) fun _ => jn (jx (jq (jr (js (jl k1 O4 Z Z) (ja Z (jn (jx ?_))))))))))
 refine jrt ?_
 exact jrB Z Z (by first | (rw [togM,if_pos hr]; done) | (rw [togM,if_neg (by simp [hr])]; done))
 exact absurd hc2 (by simp)
theorem ranges_ct {a0 : Value} {m : D.MFunc} (r : Int) : Td Tryz.prog 21 #[vMFunc m a0,.int .i64 r] [da rMFunc (vMFunc m a0) m] [] (rL rRange) (rangesM m r) := by
 refine jenter (args := [vMFunc m a0,.int .i64 r]) Tryz.func21 rfl rfl rfl fun w0 X => ?_
 refine jq (jr (jbox Z Z fun g2 => jbox Z Z fun g3 => jalc J44 Z fun g4 => jn (jx (jq (jr (js (jla k2 A28 Z28 Z Z Z) ?_))))))
 refine Bool.casesOn (motive := fun b => rightM m = b → _) (rightM m) (fun hr => ?_) (fun hr => ?_) rfl
 refine jc E40 Z Z (of_no hr) (dc d0 dn) kn (fun _ => p0) (fun _ => p0) fun _ => ja Z (jn (jx (jq (jq (jr (jm Z (js (jeqlP U91 Z Z) (jn (jx ?_)))))))))
 refine jif Z (fun hc1 => ?_) (fun hc1 => ?_)
 refine jq (jr (jst k0 Z44 Z Z Z s0 (jn (jx (jrt (jtr ?_))))))
 exact jrcD Z Z k0 O44 (by first | (rw [rangesM,if_pos hr]; done) | (rw [rangesM,if_neg (by simp [hr])]; done)) wN
 exact absurd hc1 (by simp)
 refine jc E40 Z Z (of_ct hr) (dc d0 dn) kn (fun _ => p2) (fun _ => p1) fun c7 => ?_
 have hw := right_wl hr
 have hq := right_ins hr
 have hn0 := (right_wf hr).n0
 have hnP := (right_wf hr).p0
 have hple := plM_len (bs := m.Blocks)
 have hlol := loE_len hw
 have hlm : (List.map some (loE m.Blocks)).length = m.Blocks.length := by rw [List.length_map]; exact hlol
 refine ja Z (jn (jx (jq (jq (jr (jm Z (js (jeqlP U91 Z Z) (jn (jx ?_)))))))))
 refine jif Z (fun hc2 => ?_) (fun hc2 => ?_)
 exact absurd hc2 (by simp)
 refine jsk (jx (jq (jr (jm Z (jnl (r := rRange) (E := 47) (js (jmf2 Z Z) (jc E46 Z Z (eachRng_ct r hr rfl) (dc (rMFunc.cB d2) (dc d0 (dc d1 dn))) (kc k1 (kd (kc k0 kn))) (fun _ => p0) (fun _ => p4) fun sw3 => jgo k1 fun w4 => jn (jx (jq ?_)))))))))
 refine jr (js (jl k2 O44 Z Z) (jst k2 Z44 Z Z w4.one s0 (jn (jx (jrt (qfz k2 (by have := stR_len (m := m) (r := r) (b := m.Blocks.length) (p := 0); have := preP_bd hq (b := m.Blocks.length) (by omega); omega) ?_))))))
 exact jrcD Z Z k0 O44 (by first | (rw [rangesM,if_pos hr]; done) | (rw [rangesM,if_neg (by simp [hr])]; done)) d0
def hasL (l : List Int) (r : Int) : Bool := decide (r ∈ l)
theorem has_no {l : List Int} {r : Int} (h : ∀ j,j < l.length → ¬ ix l j = r) : hasL l r = false := decide_eq_false fun h9 => by
 obtain ⟨j,hj,e⟩ := List.getElem_of_mem h9
 exact h j hj (by rw [ix_eq hj]; exact e)
theorem has_yes {l : List Int} {r : Int} {j : Nat} (hj : j < l.length) (h : ix l j = r) : hasL l r = true := decide_eq_true (by rw [← h]; exact ix_mem hj)
def backM (x : D.MBlock) (p r : Int) (o : Bool) : Bool := backB x (Int.toNat p) r o
def inM (fr r : Int) (y : D.In) : Bool := decide (y.From = fr) && decide (y.Val = r)
def phiA (l : List D.Phi) (fr r : Int) : Bool := l.any (fun p => p.In.any (inM fr r))
def phiD (l : List D.Phi) (r : Int) : Bool := l.any (fun p => decide (p.Dst = r))
theorem any_next {α : Type} [Inhabited α] {l : List α} {f : α → Bool} {k : Nat} (h : k < l.length) : (l.take (k + 1)).any f = ((l.take k).any f || f (ix l k)) := by
 rw [take_ix h,List.any_append]; simp
theorem phiA_iff {x : D.MBlock} {fr r : Int} : phiA x.Phis fr r = decide (r ∈ phiT x fr) := by
 unfold phiA phiT
 rw [Bool.eq_iff_iff,List.any_eq_true,decide_eq_true_eq,List.mem_flatMap]
 constructor
 · rintro ⟨p,hp,h⟩
   rw [List.any_eq_true] at h
   obtain ⟨y,hy,h⟩ := h
   unfold inM at h
   simp only [Bool.and_eq_true,decide_eq_true_eq] at h
   exact ⟨p,hp,List.mem_map.2 ⟨y,List.mem_filter.2 ⟨hy,by simpa using h.1⟩,h.2⟩⟩
 · rintro ⟨p,hp,h⟩
   obtain ⟨y,hy,e⟩ := List.mem_map.1 h
   obtain ⟨h1,h2⟩ := List.mem_filter.1 hy
   refine ⟨p,hp,List.any_eq_true.2 ⟨y,h1,?_⟩⟩
   unfold inM; simp only [Bool.and_eq_true,decide_eq_true_eq]
   exact ⟨by simpa using h2,e⟩
theorem phiD_iff {x : D.MBlock} {r : Int} : phiD x.Phis r = decide (r ∈ dsts x) := by
 unfold phiD dsts
 rw [Bool.eq_iff_iff,List.any_eq_true,decide_eq_true_eq,List.mem_map]
 simp only [decide_eq_true_eq]
def edgeM (m : D.MFunc) (fr to r : Int) : Bool × Bool := (phiA (ix m.Blocks (Int.toNat to)).Phis fr r,phiD (ix m.Blocks (Int.toNat to)).Phis r)
def edgeB (bs : List D.MBlock) (os : List Bool) (b : Nat) (to r : Int) : Bool :=
 phiA (ix bs to.toNat).Phis b r || (backB (ix bs to.toNat) 0 r (ix os to.toNat) && !phiD (ix bs to.toNat).Phis r)
structure OS9 (bs : List D.MBlock) (r : Int) (os : List Bool) : Prop where
 n : os.length = bs.length
 s : ∀ b,b < bs.length → ix os b = true → LO bs b r
theorem edgeB_lo {bs : List D.MBlock} {r : Int} {os : List Bool} (h : OS9 bs r os) (hw : WL bs) {b : Nat} (hb : b < bs.length) {to : Int} (ht : to ∈ (ix bs b).End.To) (he : edgeB bs os b to r = true) : LO bs b r := by
 unfold edgeB at he
 rw [phiA_iff,phiD_iff,Bool.or_eq_true,Bool.and_eq_true,Bool.not_eq_true',decide_eq_true_eq,decide_eq_false_iff_not] at he
 rcases he with he | ⟨h1,h2⟩
 · exact .phi ht he
 · rcases backB_or h1 with h3 | ⟨h3,h4⟩
   · exact .gen ht h2 h3
   · exact .thru ht h2 h4 (h.s _ (hw.t hb to ht) h3)
theorem OS9.set {bs : List D.MBlock} {r : Int} {os : List Bool} (h : OS9 bs r os) (hw : WL bs) {b : Nat} (hb : b < bs.length) {to : Int} (ht : to ∈ (ix bs b).End.To) (he : edgeB bs os b to r = true) : OS9 bs r (os.set b true) where
 n := by rw [List.length_set]; exact h.n
 s := fun j hj h2 => by
   rw [ix_set (by rw [h.n]; exact hb)] at h2
   split at h2
   · rename_i e; subst e; exact edgeB_lo h hw hb ht he
   · exact h.s j hj h2
theorem OS9.done {bs : List D.MBlock} {r : Int} {os : List Bool} (h : OS9 bs r os) (hw : WL bs) (hc : ∀ b,b < bs.length → ix os b = false → ∀ to ∈ (ix bs b).End.To,edgeB bs os b to r = false) {b : Nat} (hL : LO bs b r) : b < bs.length → ix os b = true := by
 have key : ∀ {b : Nat} {to : Int},b < bs.length → to ∈ (ix bs b).End.To → edgeB bs os b to r = true → ix os b = true := fun {b to} hb ht he => by
   cases h9 : ix os b with
   | true => rfl
   | false => rw [hc b hb h9 to ht] at he; cases he
 induction hL with
 | @phi b to r ht h1 => exact fun hb => key hb ht (by unfold edgeB; rw [phiA_iff,decide_eq_true h1,Bool.true_or])
 | @gen b to r ht h1 h2 => exact fun hb => key hb ht (by
     unfold edgeB; rw [phiD_iff,decide_eq_false h1,backB_up (fun h => by cases h) h2]; simp)
 | @thru b to r ht h1 h2 _ ih => exact fun hb => key hb ht (by
     unfold edgeB; rw [phiD_iff,decide_eq_false h1,ih h hc key (hw.t hb to ht),h2]; simp)
def outsM (m : D.MFunc) (r : Int) : List Bool := (List.range m.Blocks.length).map (fun b => decide (r ∈ ix (loE m.Blocks) b))
theorem outs_len {m : D.MFunc} {r : Int} : (outsM m r).length = m.Blocks.length := by simp [outsM]
theorem outs_ix {m : D.MFunc} {r : Int} {b : Nat} (hb : b < m.Blocks.length) : ix (outsM m r) b = decide (r ∈ ix (loE m.Blocks) b) := by
 rw [ix_eq (by rw [outs_len]; exact hb)]; simp [outsM]
theorem OS9.eq {m : D.MFunc} {r : Int} {os : List Bool} (h : OS9 m.Blocks r os) (hw : WL m.Blocks) (hc : ∀ b,b < m.Blocks.length → ix os b = false → ∀ to ∈ (ix m.Blocks b).End.To,edgeB m.Blocks os b to r = false) : os = outsM m r := by
 refine List.ext_getElem (by rw [h.n,outs_len]) fun j h1 h2 => ?_
 have hj : j < m.Blocks.length := by rw [← h.n]; exact h1
 have e1 := outs_ix (r := r) hj
 rw [ix_eq h2] at e1
 rw [e1,Bool.eq_iff_iff,decide_eq_true_eq,loE_mem hw hj,← ix_eq h1]
 exact ⟨h.s j hj,fun h9 => h.done hw hc h9 hj⟩
def cntO : List Bool → Nat
 | [] => 0
 | x :: l => (if x = true then 1 else 0) + cntO l
theorem cntO_le : ∀ (l : List Bool),cntO l ≤ l.length
 | [] => Nat.le_refl _
 | x :: l => by have := cntO_le l; rw [cntO,List.length_cons]; split <;> omega
theorem cntO_set : ∀ {l : List Bool} {b : Nat},b < l.length → ix l b = false → cntO (l.set b true) = cntO l + 1
 | [],b,h,_ => by cases h
 | x :: l,0,_,h => by
   have h' : x = false := h
   subst h'; simp [cntO]; omega
 | x :: l,b + 1,h,h2 => by
   have h3 := cntO_set (l := l) (b := b) (by simpa using h) (by simpa [ix] using h2)
   rw [List.set_cons_succ,cntO,h3,cntO]; omega
structure RD (bs : List D.MBlock) (r : Int) (p : Nat) (c : Bool) (t0 : Nat) (os : List Bool) : Prop where
 o : OS9 bs r os
 le : t0 ≤ cntO os
 lt : c = true → t0 < cntO os
 fx : c = false → ∀ j,j < p → ix os j = false → ∀ to ∈ (ix bs j).End.To,edgeB bs os j to r = false
theorem RD.beg {bs : List D.MBlock} {r : Int} {os : List Bool} (h : OS9 bs r os) : RD bs r 0 false (cntO os) os := ⟨h,Nat.le_refl _,fun h => (by cases h),fun _ j h1 => by omega⟩
theorem RD.set {bs : List D.MBlock} {r : Int} {p t0 : Nat} {c : Bool} {os : List Bool} (h : RD bs r p c t0 os) (hw : WL bs) (hp : p < bs.length) (h0 : ix os p = false) {to : Int} (ht : to ∈ (ix bs p).End.To) (he : edgeB bs os p to r = true) : RD bs r p true t0 (os.set p true) := by
 have h1 := cntO_set (l := os) (b := p) (by rw [h.o.n]; exact hp) h0
 have := h.le
 exact ⟨h.o.set hw hp ht he,by omega,fun _ => by omega,fun h => by cases h⟩
theorem RD.next {bs : List D.MBlock} {r : Int} {p t0 : Nat} {c : Bool} {os : List Bool} (h : RD bs r p c t0 os) (hn : c = false → ix os p = false → ∀ to ∈ (ix bs p).End.To,edgeB bs os p to r = false) : RD bs r (p + 1) c t0 os :=
 ⟨h.o,h.le,h.lt,fun hc j hj h0 => by
   rcases Nat.lt_or_ge j p with h9 | h9
   · exact h.fx hc j h9 h0
   · have e : j = p := by omega
     subst e; exact hn hc h0⟩
theorem OS9.beg {bs : List D.MBlock} {r : Int} : OS9 bs r (List.replicate bs.length false) := ⟨by simp,fun b hb h => by rw [ix_eq (by simpa using hb)] at h; simp at h⟩
theorem mu_rd {bs : List D.MBlock} {r : Int} {p : Nat} {c c2 : Bool} {os o2 : List Bool} (h1 : c = true) (ho : OS9 bs r os) (h : RD bs r p c2 (cntO os) o2) : (if c2 = true then bs.length + 1 - cntO o2 else 0) < (if c = true then bs.length + 1 - cntO os else 0) := by
 have h2 := cntO_le os
 have h3 := cntO_le o2
 rw [ho.n] at h2; rw [h.o.n] at h3
 rw [if_pos h1]; split
 · rename_i h4; have := h.lt h4; omega
 · omega
theorem mem_ix {α : Type} [Inhabited α] {l : List α} {P : α → Prop} (h : ∀ k,k < l.length → P (ix l k)) : ∀ x ∈ l,P x := fun x hx => by
 obtain ⟨j,hj,e⟩ := List.getElem_of_mem hx
 have := h j hj; rw [ix_eq hj,e] at this; exact this
theorem E70 : Ent Tryz.prog 70 := ⟨_,Tryz.func70,by kernel_rfl,by kernel_rfl⟩
theorem rHas_ct {a0 : Value} {l : List Int} (r : Int) : Tv Tryz.prog 70 #[a0,.int .i64 r] [dv (rL (rI .i64)) a0 l] [] (.bool (hasL l r)) := by
 refine jenter (args := [a0,.int .i64 r]) Tryz.func70 rfl rfl rfl fun w0 X => ?_
 refine jq (jr (ja Z (jn (jx (jq (jq (jr (ja Z (jn (jx (jb ?_)))))))))))
 refine jlp (fun (k : Nat) => ⟨k ≤ l.length ∧ ∀ j,j < k → ¬ ix l j = r,[dv (rL (rI .i64)) a0 l],[],[(0,a0),(1,.int .i64 r),(5,.int .i64 (↑k))],l.length - k⟩) 0 ⟨by omega,fun j hj => by omega⟩ (dc d0 dn) kn ⟨Z,Z,eqI (by omega),trivial⟩ ?_
 rintro k; dsimp only; rintro ⟨hk,hno⟩
 refine jq (jq (jr (jm Z (jm Z (jdq d0 fun q1 w1 => js (jln U22 d0 Z) (js (jlss Z Z) (jn (jx ?_))))))))
 refine jif Z (fun hc1 => ?_) (fun hc1 => ?_)
 refine jsk (jx (jq (jb (jq (jr (jm Z (jm Z (js (jix U22 Z3 d0 Z Z Z (by omega)) (js (jlI (dix d0 k (by omega)) O3 Z) (jm Z (js (jeql Z Z) ?_)))))))))))
 refine jn (jx ?_)
 refine jif Z (fun hc2 => ?_) (fun hc2 => ?_)
 refine jq (jr (ja Z (jn (jx (jrt (jbr (jtr (jtr (jbr (jtr ?_))))))))))
 exact jrB Z Z (by first | (exact has_yes (by omega) hc2) | (exact has_no (fun j hj => hno j (by omega))))
 refine jsk (jbn (jx (jr (jm Z (js (jadd Z Z (by omega)) (ja Z (jn ?_)))))))
 exact jag (k + 1) ⟨by omega,fun j hj => by rcases Nat.lt_or_ge j k with h7 | h7; (exact hno j h7); (rw [show j = k by omega]; exact hc2)⟩ (dc d0 dn) kn ⟨Z,Z,eqI (by omega),trivial⟩
 refine jex (jtx (jtx (jbh (jx (jq (jr (ja Z (jn (jx (jrt ?_))))))))))
 exact jrB Z Z (by first | (exact has_yes (by omega) hc2) | (exact has_no (fun j hj => hno j (by omega))))
theorem back_ct {a0a a0b a0c : Value} {x : D.MBlock} (p : Int) (r : Int) (o : Bool) (hp : 0 ≤ p ∧ p ≤ x.Ins.length) : Tv Tryz.prog 42 #[vMBlock x (a0a,a0b,a0c),.int .i64 p,.int .i64 r,.bool o] [da rMBlock (vMBlock x (a0a,a0b,a0c)) x] [] (.bool (backM x p r o)) := by
 refine jenter (args := [vMBlock x (a0a,a0b,a0c),.int .i64 p,.int .i64 r,.bool o]) Tryz.func42 rfl rfl rfl fun w0 X => ?_
 refine jq (jr (jbox Z Z fun g4 => ja Z (jn (jx (jq (jr (jm Z (jm Z (jg Z Z (.f _) (fun hg => jf F37_2 Z) (jg Z Z (.f _) (fun hg => jla k0 A35 Z35 (evg Z hg) Z Z) ?_))))))))))
 refine jgcd Z Z (.f _) E43 Z (fun hg => evl1 (evg Z hg)) (fun hg => rNeeds_ct) (fun hg => (dc (rMBlock.P_End d0) dn)) fun v15 => jg Z Z (.f _) (fun hg => jmv Z) (jgc Z Z (.f _) E70 Z (fun hg => evl2 (evg Z hg) (evg Z hg)) (fun hg => (rHas_ct r)) (fun hg => (dc (d0.on hg) dn)) kn p0 (js (jor Z Z) (ja Z (jn (jx (jq (jq (jr (js (jf F37_1 Z) (js (jl k0 O33 Z Z) ?_))))))))))
 refine jdq (rMBlock.cI d1) fun q2 w2 => js (jln U33 (rMBlock.cI d1) Z) (js (jsub Z Z (by omega)) (ja Z (jn (jx (jb ?_)))))
 refine jlp (u2 fun (q : Nat) (nw : Bool) => ⟨(Int.toNat p ≤ q ∧ q ≤ x.Ins.length) ∧ nw = bkB r (x.Ins.drop q) (o || decide (r ∈ nM9 x.End)),[da rMBlock (vMBlock x (a0a,a0b,a0c)) x],[bx g4 37 [a0a,a0b,.int .i64 x.End.Op,.int .i64 x.End.A,.int .i64 x.End.B,a0c,.int .i32 x.End.Imm]],[(1,.int .i64 p),(2,.int .i64 r),(4,.pointer (some ⟨g4,0,none⟩)),(8,.bool false),(9,.bool nw),(10,.int .i64 ((q : Int) - 1))],q⟩) (x.Ins.length,o || (hasL (nM9 x.End) r)) ⟨by dsimp only; omega,by dsimp only; rw [List.drop_length]; rfl⟩ (dc d1 dn) (kc k0 kn) ⟨Z,Z,Z,Z,Z,eqI (by omega),trivial⟩ ?_
 rintro ⟨q,nw⟩; dsimp only [u2]; rintro ⟨hq1,hnw⟩
 refine jq (jq (jr (jm Z (jm Z (js (jgeq Z Z) (jn (jx ?_)))))))
 refine jif Z (fun hc1 => ?_) (fun hc1 => ?_)
 refine jsk (jx (jq (jb (jq (jq (jr (js (jf F37_1 Z) (js (jl k0 O33 Z Z) (jm Z (js (jix (i := (q - 1)) U33 Z69 (rMBlock.cI d0) Z Z (by omega) (by omega)) (jA sMach (jlA (dix (rMBlock.cI d0) (q - 1) (by omega)) A69 Z69 Z) fun c32 => ?_)))))))))))
 refine jcd E45 Z Z rMakes_ct (dc d0 dn) kn fun v33 q4 w4 => jm Z (jcv E70 Z Z (rHas_ct r) (dc d0 dn) kn (jn (jx ?_)))
 refine jif Z (fun hc2 => ?_) (fun hc2 => ?_)
 refine jr (ja Z (jn (jx (jq (jr (js (jf F37_1 Z) (js (jl k0 O33 Z Z) (jm Z (js (jix (i := (q - 1)) U33 Z69 (rMBlock.cI d2) Z Z (by omega) (by omega)) (jA sMach (jlA (dix (rMBlock.cI d2) (q - 1) (by omega)) A69 Z69 Z) fun c40 => jcd E44 Z Z rTakes_ct (dc d0 dn) kn fun v41 q7 w7 => ?_))))))))))
 refine jm Z (jcv E70 Z Z (rHas_ct r) (dc d0 dn) kn (jn (jx ?_)))
 refine jif Z (fun hc3 => ?_) (fun hc3 => ?_)
 refine jr (ja Z (jn (jbn (jx (jr (jm Z (js (jsub Z Z (by omega)) (ja Z (jn ?_)))))))))
 exact jag (q - 1,true) ⟨by dsimp only; omega,by dsimp only; rw [drop_ix (l := x.Ins) (i := q - 1) (by omega),show q - 1 + 1 = q by omega,bkB,← hnw]; simp only [hasL,decide_eq_true_eq] at hc2 hc3; simp [hc2,hc3]⟩ (dc d4 dn) (kc k0 kn) ⟨Z,Z,Z,Z,Z,eqI (by omega),trivial⟩
 refine jsk (jbn (jx (jr (jm Z (js (jsub Z Z (by omega)) (ja Z (jn ?_)))))))
 exact jag (q - 1,false) ⟨by dsimp only; omega,by dsimp only; rw [drop_ix (l := x.Ins) (i := q - 1) (by omega),show q - 1 + 1 = q by omega,bkB,← hnw]; simp only [hasL,decide_eq_true_eq] at hc2 hc3; simp [hc2,hc3]⟩ (dc d4 dn) (kc k0 kn) ⟨Z,Z,Z,Z,Z,eqI (by omega),trivial⟩
 refine jsk (jx (jq (jr (js (jf F37_1 Z) (js (jl k0 O33 Z Z) (jm Z (js (jix (i := (q - 1)) U33 Z69 (rMBlock.cI d2) Z Z (by omega) (by omega)) (jA sMach (jlA (dix (rMBlock.cI d2) (q - 1) (by omega)) A69 Z69 Z) fun c40_9 => jcd E44 Z Z rTakes_ct (dc d0 dn) kn fun v41_11 q12 w12 => jm Z (jcv E70 Z Z (rHas_ct r) (dc d0 dn) kn ?_)))))))))
 refine jn (jx ?_)
 refine jif Z (fun hc4 => ?_) (fun hc4 => ?_)
 refine jr (ja Z (jn (jbn (jx (jr (jm Z (js (jsub Z Z (by omega)) (ja Z (jn ?_)))))))))
 exact jag (q - 1,true) ⟨by dsimp only; omega,by dsimp only; rw [drop_ix (l := x.Ins) (i := q - 1) (by omega),show q - 1 + 1 = q by omega,bkB,← hnw]; simp only [hasL,decide_eq_true_eq] at hc2 hc4; simp [hc2,hc4]⟩ (dc d4 dn) (kc k0 kn) ⟨Z,Z,Z,Z,Z,eqI (by omega),trivial⟩
 refine jsk (jbn (jx (jr (jm Z (js (jsub Z Z (by omega)) (ja Z (jn ?_)))))))
 exact jag (q - 1,nw) ⟨by dsimp only; omega,by dsimp only; rw [drop_ix (l := x.Ins) (i := q - 1) (by omega),show q - 1 + 1 = q by omega,bkB,← hnw]; simp only [hasL,decide_eq_true_eq] at hc2 hc4; simp [hc2,hc4]⟩ (dc d4 dn) (kc k0 kn) ⟨Z,Z,Z,Z,Z,eqI (by omega),trivial⟩
 refine jex (jtx (jtx (jbh (jx (jq (jr (jm Z (ja Z (jn (jx (jrt ?_)))))))))))
 exact jrB Z Z (by rw [backM,backB,hnw,show q = Int.toNat p by omega])
theorem edge_ct {a0 : Value} {m : D.MFunc} (fr : Int) (to : Int) (r : Int) (ht : 0 ≤ to ∧ to < m.Blocks.length) : Tv Tryz.prog 69 #[vMFunc m a0,.int .i64 fr,.int .i64 to,.int .i64 r] [da rMFunc (vMFunc m a0) m] [] (.tuple #[.bool ((edgeM m fr to r).1),.bool ((edgeM m fr to r).2)]) := by
 refine jenter (args := [vMFunc m a0,.int .i64 fr,.int .i64 to,.int .i64 r]) Tryz.func69 rfl rfl rfl fun w0 X => ?_
 refine jq (jr (jbox Z Z fun g4 => ja Z (ja Z (jn (jx (jq (jr (ja Z (jn (jx ?_))))))))))
 refine jq (jr (ja Z (jn (jx (jq (jr (js (jf F28_1 Z) (js (jl k0 O26 Z Z) (jm Z (jdq (rMFunc.cB d0) fun q1 w1 => js (jix (i := (Int.toNat to)) U26 Z37 (rMFunc.cB d0) Z Z (by omega) (by omega)) ?_))))))))))
 refine js (jf F37_0 Z) (jev (jlV (rMBlock.A_Phis (dix (rMFunc.cB d0) (Int.toNat to) (by omega))) O32 Z Z) fun v20 q2 w2 => ja Z (jn (jx (jq (jq (jr (ja Z (jn (jx (jb ?_))))))))))
 refine jlp (u3 fun (k : Nat) (ai : Bool) (ds : Bool) => ⟨k ≤ (ix m.Blocks (Int.toNat to)).Phis.length ∧ ai = phiA ((ix m.Blocks (Int.toNat to)).Phis.take k) fr r ∧ ds = phiD ((ix m.Blocks (Int.toNat to)).Phis.take k) r,[dv (rL rPhi) v20 ((ix m.Blocks (Int.toNat to)).Phis)],[],[(1,.int .i64 fr),(3,.int .i64 r),(8,.bool false),(9,.bool false),(10,.bool ai),(11,.bool ds),(12,v20),(13,.int .i64 (↑k))],(ix m.Blocks (Int.toNat to)).Phis.length - k⟩) (0,false,false) ⟨by dsimp only; omega,rfl,rfl⟩ (dc d0 dn) kn ⟨Z,Z,Z,Z,Z,Z,Z,eqI (by omega),trivial⟩ ?_
 rintro ⟨k,ai,ds⟩; dsimp only [u3]; rintro ⟨hk,hai,hds⟩
 refine jq (jq (jr (jm Z (jm Z (js (jln U32 d0 Z) (js (jlss Z Z) (jn (jx ?_))))))))
 refine jif Z (fun hc1 => ?_) (fun hc1 => ?_)
 refine jsk (jx (jq (jb (jq (jr (jm Z (jm Z (jg Z Z (.f _) (fun hg => jmv Z) (jg Z Z (.f _) (fun hg => jmv Z) (jg Z Z (.f _) (fun hg => jix U32 Z62 d0 (evg Z hg) (evg Z hg) Z (by first | omega | (simp at hg; omega) | (simp only [List.length_set]; omega))) (jg Z Z (.f _) (fun hg => jf F62_0 (evg Z hg)) ?_)))))))))))
 refine jg Z Z (.f _) (fun hg => jlI (rPhi.A_Dst (dix d0 k (by first | omega | (simp at hg; omega) | (simp only [List.length_set]; omega)))) O3 (evg Z hg)) (jg Z Z (.f _) (fun hg => jmv Z) (jg Z Z (.f _) (fun hg => jeql (evg Z hg) (evg Z hg)) (js (jor Z Z) (ja Z (jn (jx (jq (jr (ja Z (jn (jx ?_)))))))))))
 refine jb ?_
 refine jlp (u2 fun (j : Nat) (a2 : Bool) => ⟨j ≤ (ix (ix m.Blocks (Int.toNat to)).Phis k).In.length ∧ a2 = (ai || ((ix (ix m.Blocks (Int.toNat to)).Phis k).In.take j).any (inM fr r)),[dv (rL rPhi) v20 ((ix m.Blocks (Int.toNat to)).Phis)],[],[(1,.int .i64 fr),(3,.int .i64 r),(8,.bool false),(9,.bool false),(10,.bool a2),(11,.bool (ds || (decide ((ix ((ix m.Blocks (Int.toNat to)).Phis) k).Dst = r)))),(12,v20),(13,.int .i64 (↑k)),(14,.int .i64 (↑j))],(ix (ix m.Blocks (Int.toNat to)).Phis k).In.length - j⟩) (0,ai) ⟨by dsimp only; omega,by simp⟩ (dc d0 dn) kn ⟨Z,Z,Z,Z,Z,Z,Z,Z,eqI (by omega),trivial⟩ ?_
 rintro ⟨j,a2⟩; dsimp only [u2]; rintro ⟨hj,hai2⟩
 refine jq (jq (jr (jm Z (jm Z (jm Z (js (jix U32 Z62 d0 Z Z Z (by omega)) (js (jf F62_1 Z) (jev (jlV (rPhi.A_In (dix d0 k (by omega))) O60 Z Z) fun v42 q4 w4 => js (jln U60 d0 Z) (js (jlss Z Z) (jn ?_))))))))))
 refine jx ?_
 refine jif Z (fun hc2 => ?_) (fun hc2 => ?_)
 refine jsk (jx (jq (jb (jr (jm Z (jm Z (jg Z Z (.f _) (fun hg => jmv Z) (jg Z Z (.f _) (fun hg => jmv Z) (jg Z Z (.f _) (fun hg => jix U32 Z62 d1 (evg Z hg) (evg Z hg) Z (by first | omega | (simp at hg; omega) | (simp only [List.length_set]; omega))) (jg Z Z (.f _) (fun hg => jf F62_1 (evg Z hg)) (jge (q := fun v => dv (rL rIn) v ((ix ((ix m.Blocks (Int.toNat to)).Phis) k).In)) Z Z (.f _) (fun hg => jlV (rPhi.A_In (dix d1 k (by first | omega | (simp at hg; omega) | (simp only [List.length_set]; omega)))) O60 Z (evg Z hg)) fun v53 => ?_)))))))))))
 refine jg Z Z (.f _) (fun hg => jmv Z) (jg Z Z (.f _) (fun hg => jix U60 Z64 (d0.on hg) (evg Z hg) (evg Z hg) Z (by first | omega | (simp at hg; omega) | (simp only [List.length_set]; omega))) (jg Z Z (.f _) (fun hg => jf F64_0 (evg Z hg)) (jg Z Z (.f _) (fun hg => jlI (rIn.A_From (dix (d0.on hg) j (by first | omega | (simp at hg; omega) | (simp only [List.length_set]; omega)))) O3 (evg Z hg)) (jg Z Z (.f _) (fun hg => jmv Z) (jg Z Z (.f _) (fun hg => jeql (evg Z hg) (evg Z hg)) (jg Z Z (.f _) (fun hg => jmv (evg Z hg)) (jg Z Z (.gt _ _) (fun hg => jmv Z) (jg Z Z (.gt _ _) (fun hg => jmv Z) (jg Z Z (.gt _ _) (fun hg => jix U32 Z62 d2 (evg Z hg) (evg Z hg) Z (by first | omega | (simp at hg; omega) | (simp only [List.length_set]; omega))) (jg Z Z (.gt _ _) (fun hg => jf F62_1 (evg Z hg)) (jge (q := fun v => dv (rL rIn) v ((ix ((ix m.Blocks (Int.toNat to)).Phis) k).In)) Z Z (.gt _ _) (fun hg => jlV (rPhi.A_In (dix d2 k (by first | omega | (simp at hg; omega) | (simp only [List.length_set]; omega)))) O60 Z (evg Z hg)) fun v65 => ?_)))))))))))
 refine jg Z Z (.gt _ _) (fun hg => jmv Z) (jg Z Z (.gt _ _) (fun hg => jix U60 Z64 (d0.on hg) (evg Z hg) (evg Z hg) Z (by first | omega | (simp at hg; omega) | (simp only [List.length_set]; omega))) (jg Z Z (.gt _ _) (fun hg => jf F64_1 (evg Z hg)) (jg Z Z (.gt _ _) (fun hg => jlI (rIn.A_Val (dix (d0.on hg) j (by first | omega | (simp at hg; omega) | (simp only [List.length_set]; omega)))) O3 (evg Z hg)) (jg Z Z (.gt _ _) (fun hg => jmv Z) (jg Z Z (.gt _ _) (fun hg => jeql (evg Z hg) (evg Z hg)) (jg Z Z (.f _) (fun hg => jand2 hg Z Z) (js (jor Z Z) (ja Z (jn (jbn (jx ?_)))))))))))
 refine jr (jm Z (js (jadd Z Z (by omega)) (ja Z (jn ?_))))
 exact jag (j + 1,a2 || ((decide ((ix ((ix ((ix m.Blocks (Int.toNat to)).Phis) k).In) j).From = fr)) && (decide ((ix ((ix ((ix m.Blocks (Int.toNat to)).Phis) k).In) j).Val = r)))) ⟨by dsimp only; omega,by dsimp only; rw [hai2,any_next (by omega),Bool.or_assoc]; rfl⟩ (dc d3 dn) kn ⟨Z,Z,Z,Z,Z,Z,Z,Z,eqI (by omega),trivial⟩
 refine jex (jtx (jtx (jbh (jbn (jx (jr (jm Z (js (jadd Z Z (by omega)) (ja Z (jn ?_))))))))))
 exact jag (k + 1,a2,ds || (decide ((ix ((ix m.Blocks (Int.toNat to)).Phis) k).Dst = r))) ⟨by dsimp only; omega,by dsimp only; rw [hai2,List.take_of_length_le (by omega),hai]; unfold phiA; rw [any_next (by omega)],by dsimp only; rw [hds]; unfold phiD; rw [any_next (by omega)]⟩ (dc d1 dn) kn ⟨Z,Z,Z,Z,Z,Z,Z,eqI (by omega),trivial⟩
 refine jex (jtx (jtx (jbh (jx (jq (jr (jm Z (jm Z (ja Z (ja Z (jn ?_)))))))))))
 refine jx (jrt ?_)
 exact jr2 Z Z Z () (tBB (by rw [edgeM,hai,hds,List.take_of_length_le (by omega)])) dn (fun _ _ => kn)
theorem E42 : Ent Tryz.prog 42 := ⟨_,Tryz.func42,by kernel_rfl,by kernel_rfl⟩
theorem E69 : Ent Tryz.prog 69 := ⟨_,Tryz.func69,by kernel_rfl,by kernel_rfl⟩
set_option maxRecDepth 4000
theorem outs_ct {a0 : Value} {m : D.MFunc} (r : Int) (hr : rightM m = true) : Td Tryz.prog 41 #[vMFunc m a0,.int .i64 r] [da rMFunc (vMFunc m a0) m] [] (rL rB) (outsM m r) := by
 refine jenter (args := [vMFunc m a0,.int .i64 r]) Tryz.func41 rfl rfl rfl fun w0 X => ?_
 have hw := right_wl hr
 have hn0 := (right_wf hr).n0
 have hq := right_ins hr
 refine jq (jr (jbox Z Z fun g2 => ja Z (jn (jx (jq (jr (js (jf F28_1 Z) (js (jl k0 O26 Z Z) (jdq (rMFunc.cB d0) fun q1 w1 => js (jln U26 (rMFunc.cB d0) Z) ?_)))))))))
 refine jmk (m := (List.length m.Blocks)) (r := rB) U93 I4 Z Z Z Z Z (by omega) wB Z fun g16 => ja Z (jn (jx (jq (jr (ja Z (jn (jx (jq (jb ?_)))))))))
 refine jlp (u2 fun (c : Bool) (os : List Bool) => ⟨OS9 m.Blocks r os ∧ (c = false → ∀ b,b < m.Blocks.length → ix os b = false → ∀ to ∈ (ix m.Blocks b).End.To,edgeB m.Blocks os b to r = false),[da rMFunc (vMFunc m a0) m],[gl X.n rB 4 (.slice (some ⟨g16,0,none⟩) (List.length m.Blocks) (List.length m.Blocks)) os,bx g2 28 [.int .i64 m.Params,a0]],[(1,.int .i64 r),(2,.pointer (some ⟨g2,0,none⟩)),(4,.slice none 0 0),(5,(.slice (some ⟨g16,0,none⟩) (List.length m.Blocks) (List.length m.Blocks))),(6,.bool c)],if c = true then m.Blocks.length + 1 - cntO os else 0⟩) (true,List.replicate (List.length m.Blocks) false) ⟨OS9.beg,fun h => by cases h⟩ (dc d0 dn) (kd kn) ⟨Z,Z,Z,Z,Z,trivial⟩ ?_
 rintro ⟨c,os⟩; dsimp only [u2]; rintro ⟨ho,hcf⟩
 have hol := ho.n
 refine jq (jq (jr (jm Z (jn (jx ?_)))))
 refine jif Z (fun hc1 => ?_) (fun hc1 => ?_)
 refine jsk (jx (jb (jq (jr (ja Z (jn (jx (jq (jr (ja Z (jn ?_)))))))))))
 refine jx (jb ?_)
 refine jlp (u3 fun (b : Nat) (c2 : Bool) (o2 : List Bool) => ⟨b ≤ m.Blocks.length ∧ RD m.Blocks r b c2 (cntO os) o2,[da rMFunc (vMFunc m a0) m],[gl X.n rB 4 (.slice (some ⟨g16,0,none⟩) (List.length m.Blocks) (List.length m.Blocks)) o2,bx g2 28 [.int .i64 m.Params,a0]],[(1,.int .i64 r),(2,.pointer (some ⟨g2,0,none⟩)),(4,.slice none 0 0),(5,(.slice (some ⟨g16,0,none⟩) (List.length m.Blocks) (List.length m.Blocks))),(6,.bool c2),(7,.int .i64 (↑b))],m.Blocks.length - b⟩) (0,false,os) ⟨by dsimp only; omega,RD.beg ho⟩ (dc d0 dn) (kd kn) ⟨Z,Z,Z,Z,Z,eqI (by omega),trivial⟩ ?_
 rintro ⟨b,c2,o2⟩; dsimp only [u3]; rintro ⟨hb,hR2⟩
 have ho2 := hR2.o.n
 refine jq (jq (jr (jm Z (js (jf F28_1 Z) (js (jl k1 O26 Z Z) (js (jln U26 (rMFunc.cB d0) Z) (js (jlss Z Z) (jn (jx ?_)))))))))
 refine jif Z (fun hc2 => ?_) (fun hc2 => ?_)
 refine jsk (jx (jq (jb (jq (jr (ja Z (jn (jx (jb ?_)))))))))
 have hbb : b < m.Blocks.length := by omega
 refine jlp (u3 fun (j : Nat) (c3 : Bool) (o3 : List Bool) => ⟨j ≤ (ix m.Blocks b).End.To.length ∧ RD m.Blocks r b c3 (cntO os) o3 ∧ (ix o3 b = false → ∀ i,i < j → edgeB m.Blocks o3 b (ix (ix m.Blocks b).End.To i) r = false),[da rMFunc (vMFunc m a0) m],[gl X.n rB 4 (.slice (some ⟨g16,0,none⟩) (List.length m.Blocks) (List.length m.Blocks)) o3,bx g2 28 [.int .i64 m.Params,a0]],[(1,.int .i64 r),(2,.pointer (some ⟨g2,0,none⟩)),(4,.slice none 0 0),(5,(.slice (some ⟨g16,0,none⟩) (List.length m.Blocks) (List.length m.Blocks))),(6,.bool c3),(7,.int .i64 (↑b)),(8,.int .i64 (↑j))],(ix m.Blocks b).End.To.length - j⟩) (0,c2,o2) ⟨by dsimp only; omega,hR2,fun _ i hi => absurd hi (Nat.not_lt_zero i)⟩ (dc d0 dn) (kd kn) ⟨Z,Z,Z,Z,Z,Z,eqI (by omega),trivial⟩ ?_
 rintro ⟨j,c3,o3⟩; dsimp only [u3]; rintro ⟨hj,hR3,hf3⟩
 have ho3 := hR3.o.n
 refine jq (jq (jr (jm Z (js (jf F28_1 Z) (js (jl k1 O26 Z Z) (jm Z (js (jix U26 Z37 (rMFunc.cB d0) Z Z Z (by omega)) (js (jf F37_2 Z) (js (jf F35_3 Z) (jev (jlV (rEnd.A_To (rMBlock.A_End (dix (rMFunc.cB d0) b (by omega)))) O22 Z Z) fun v32 q2 w2 => js (jln U22 d0 Z) ?_))))))))))
 refine js (jlss Z Z) (jm Z (jg Z Z (.t _) (fun hg => jmv Z) (jg Z Z (.t _) (fun hg => jmv Z) (jg Z Z (.t _) (fun hg => jig U93 Z4 k0 (evg Z hg) (evg Z hg) Z (by first | omega | (simp at hg; omega) | (simp only [List.length_set]; omega))) (jg Z Z (.t _) (fun hg => jgB k0 (by first | omega | (simp at hg; omega) | (simp only [List.length_set]; omega)) O4 (evg Z hg)) (jg Z Z (.t _) (fun hg => jnot (evg Z hg)) (js (jand Z Z) (jn (jx ?_)))))))))
 refine jif Z (fun hc3 => ?_) (fun hc3 => ?_)
 have hjl : j < (ix m.Blocks b).End.To.length := by have := hc3.1; omega
 have hz3 : ix o3 b = false := by simpa using hc3.2
 have hto := hw.to b hbb (ix (ix m.Blocks b).End.To j) (ix_mem hjl)
 refine jsk (jx (jq (jb (jq (jr (js (jf F28_1 Z) (js (jl k1 O26 Z Z) (jm Z (js (jix U26 Z37 (rMFunc.cB d1) Z Z Z (by omega)) (js (jf F37_2 Z) (js (jf F35_3 Z) ?_)))))))))))
 refine jev (jlV (rEnd.A_To (rMBlock.A_End (dix (rMFunc.cB d1) b (by omega)))) O22 Z Z) fun v50 q4 w4 => jm Z (js (jix U22 Z3 d0 Z Z Z (by omega)) (js (jlI (dix d0 j (by omega)) O3 Z) (ja Z (jn (jx (jq (jr (js (jla k1 A28 Z28 Z Z Z) (jm Z (jm Z ?_))))))))))
 refine jm Z (jcv E69 Z Z (edge_ct ↑b (ix (((ix m.Blocks b).End).To) j) r ⟨by omega,by omega⟩) (dc d2 dn) kn (jm Z (js (jex' Z Z) (js (jex' Z Z) (ja Z (ja Z (jn (jx (jq (jtl 10 Mixed (by kernel_rfl) (jt (jf F28_1 Z) ?_)))))))))))
 refine jt (jl k1 O26 Z Z) (jt (jmv Z) (jt (jix (i := (Int.toNat (ix (((ix m.Blocks b).End).To) j))) U26 Z37 (rMFunc.cB d2) Z Z (by omega) (by omega)) (jtA3 sMBlock (jlA (dix (rMFunc.cB d2) (Int.toNat (ix (((ix m.Blocks b).End).To) j)) (by omega)) A37 Z37 Z) fun c66a c66b c66c => jt (jmv Z) (jt (jmv Z) (jt (jmv Z) (jt (jig (i := (Int.toNat (ix (((ix m.Blocks b).End).To) j))) U93 Z4 k0 Z Z (by omega) (by omega)) (jt (jgB k0 (by omega) O4 Z) (jtt (jcv E42 Z Z (back_ct 0 r (ix o3 (Int.toNat (ix (((ix m.Blocks b).End).To) j))) ⟨by omega,by omega⟩) (dc d0 dn) kn (ja Z ?_))))))))))
 refine jn (jx (jq (jr (jm Z (jm Z (jg Z Z (.f _) (fun hg => jmv Z) (jg Z Z (.f _) (fun hg => jmv (evg Z hg)) (jg Z Z (.gt _ _) (fun hg => jmv Z) (jg Z Z (.gt _ _) (fun hg => jnot (evg Z hg)) (jg Z Z (.f _) (fun hg => jand2 hg Z Z) (js (jor Z Z) ?_)))))))))))
 refine jn (jx ?_)
 refine jif Z (fun hc4 => ?_) (fun hc4 => ?_)
 have hed : edgeB m.Blocks o3 b (ix (ix m.Blocks b).End.To j) r = true := by unfold edgeB; simpa [backM,edgeM] using hc4
 refine jq (jr (jm Z (jm Z (js (jig U93 Z4 k0 Z Z Z (by omega)) (jsg k0 Z Z4 Z Z Z (by omega) wB (jn (jx (jr (ja Z (jn (jbn ?_)))))))))))
 refine jx (jr (jm Z (js (jadd Z Z (by omega)) (ja Z (jn ?_)))))
 exact jag (j + 1,true,List.set o3 b true) ⟨by dsimp only; omega,hR3.set hw hbb hz3 (ix_mem hjl) hed,fun h0 => by dsimp only at h0; rw [ix_set (by omega),if_pos rfl] at h0; cases h0⟩ (dc d3 dn) (kd kn) ⟨Z,Z,Z,Z,Z,Z,eqI (by omega),trivial⟩
 have hed : edgeB m.Blocks o3 b (ix (ix m.Blocks b).End.To j) r = false := by unfold edgeB; simp [backM,edgeM] at hc4; rw [hc4.1]; rcases hc4.2 with h9 | h9 <;> simp [h9]
 refine jsk (jbn (jx (jr (jm Z (js (jadd Z Z (by omega)) (ja Z (jn ?_)))))))
 exact jag (j + 1,c3,o3) ⟨by dsimp only; omega,hR3,fun h0 i hi => by dsimp only at hi; rcases Nat.lt_or_ge i j with h7 | h7; (exact hf3 h0 i h7); (rw [show i = j by omega]; exact hed)⟩ (dc d3 dn) (kd kn) ⟨Z,Z,Z,Z,Z,Z,eqI (by omega),trivial⟩
 refine jex (jtx (jtx (jbh (jbn (jx (jr (jm Z (js (jadd Z Z (by omega)) (ja Z (jn ?_))))))))))
 exact jag (b + 1,c3,o3) ⟨by dsimp only; omega,hR3.next (fun _ h0 => mem_ix (fun i hi => hf3 h0 i (by rcases Nat.lt_or_ge i j with h7 | h7; (exact h7); (rcases hc3 with h8 | h8; (omega); (rw [h0] at h8; cases h8)))))⟩ (dc d1 dn) (kd kn) ⟨Z,Z,Z,Z,Z,eqI (by omega),trivial⟩
 refine jex (jtx (jtx (jbh (jbn ?_))))
 exact jag (c2,o2) ⟨hR2.o,fun h j hj => hR2.fx h j (by omega)⟩ (dc d0 dn) (kd kn) ⟨Z,Z,Z,Z,Z,trivial⟩ (by dsimp only [u2]; exact mu_rd (by simpa using hc1) ho hR2)
 refine jex (jtx (jtx (jbh (jx (jq (jr (jm Z (ja Z (jn (jx (jrt ?_)))))))))))
 refine qfz k0 (by omega) ?_
 exact jrD Z Z ((OS9.eq ho hw (hcf (by simpa using hc1))).symm) d0
end Go.Proofs.YtehhjlkmbdhckaaGreat
namespace Go.Proofs.YtehhjlkmbdhckaaGreat
open Go.JE
def phiB (p : D.Phi) : List Int := p.Dst :: p.In.map (fun y => y.Val)
def insB (i : D.Mach) : List Int := takesM i ++ makesM i
def regB (x : D.MBlock) : List Int := nM9 x.End ++ x.Phis.flatMap phiB ++ x.Ins.flatMap insB
def parB (m : D.MFunc) : List Int := (List.range (Int.toNat m.Params)).map (fun k : Nat => (k : Int))
def regA (m : D.MFunc) : List Int := parB m ++ m.Blocks.flatMap regB
def regsM (m : D.MFunc) : List Int := ((List.range 8192).filter (fun k : Nat => decide ((k : Int) ∈ regA m))).map (fun k : Nat => (k : Int))
structure MK (P : List Int) (mk : List Bool) : Prop where
 n : mk.length = 8192
 s : ∀ k : Nat,k < 8192 → ix mk k = decide ((k : Int) ∈ P)
theorem MK.beg : MK [] (List.replicate 8192 false) := ⟨List.length_replicate,fun k hk => by rw [ix_eq (by rw [List.length_replicate]; exact hk),List.getElem_replicate]; exact (decide_eq_false (fun h => by cases h)).symm⟩
theorem MK.set {P : List Int} {mk : List Bool} {r : Int} (h : MK P mk) (hr : Rg r) : MK (P ++ [r]) (mk.set (Int.toNat r) true) := by
 unfold Rg at hr
 refine ⟨by rw [List.length_set]; exact h.n,fun k hk => ?_⟩
 rw [ix_set (by rw [h.n]; omega)]
 split
 · rename_i e
   rw [eq_comm,decide_eq_true_eq,List.mem_append]; right; simp; omega
 · rename_i e
   rw [h.s k hk,decide_eq_decide,List.mem_append]
   constructor
   · exact .inl
   · rintro (h9 | h9)
     · exact h9
     · simp at h9; omega
theorem MK.of {P P' : List Int} {mk : List Bool} (h : MK P mk) (e : P = P') : MK P' mk := e ▸ h
theorem filt_next {f : Nat → Bool} {k : Nat} : ((List.range (k + 1)).filter f).map (fun k : Nat => (k : Int)) = ((List.range k).filter f).map (fun k : Nat => (k : Int)) ++ if f k = true then [(k : Int)] else [] := by
 rw [List.range_succ,List.filter_append,List.map_append]
 congr 1
 by_cases h : f k = true
 · simp [h]
 · simp [h]
theorem flat_len {α β : Type} {f : α → List β} {c : Nat} : ∀ {l : List α},(∀ x ∈ l,(f x).length ≤ c) → (l.flatMap f).length ≤ c * l.length
 | [],_ => by simp
 | x :: l,h => by
   have h1 := flat_len (l := l) (fun y hy => h y (by simp [hy]))
   have h2 := h x (by simp)
   rw [List.flatMap_cons,List.length_append,List.length_cons,Nat.mul_add]; omega
theorem flat_next {α β : Type} [Inhabited α] {f : α → List β} {l : List α} {k : Nat} (h : k < l.length) : (l.take (k + 1)).flatMap f = (l.take k).flatMap f ++ f (ix l k) := by
 rw [take_ix h,List.flatMap_append]; simp
theorem cntB_mem2 : ∀ {l : List D.MBlock} {x : D.MBlock},x ∈ l → (x.Phis.length : Int) + x.Ins.length ≤ cntB l
 | y :: l,x,h => by
   have h0 : 0 ≤ cntB l := by cases l with | nil => exact Int.le_refl _ | cons z l => exact (cntB_mem (x := z) (by simp)).2
   rw [cntB]
   rcases List.mem_cons.1 h with rfl | h
   · omega
   · have := cntB_mem2 h; omega
section
variable {m : D.MFunc} {b : Nat}
theorem right_phis (h : rightM m = true) (hb : b < m.Blocks.length) : (ix m.Blocks b).Phis.length ≤ 16384 ∧ (ix m.Blocks b).Ins.length ≤ 16384 := by
 have h1 := cntB_mem2 (ix_mem (l := m.Blocks) hb)
 have h2 := (right_none h).2
 omega
theorem right_in (h : rightM m = true) (hb : b < m.Blocks.length) : ∀ p ∈ (ix m.Blocks b).Phis,p.In.length ≤ 512 := fun p hp => by
 have hW := right_wf h
 have h1 := (hW.phi b hb p hp).2.1
 have h2 : (predsM m.Blocks b).length ≤ m.Blocks.length := by
   unfold predsM predsT
   rw [List.length_map]
   exact Nat.le_trans (List.length_filter_le _ _) (by simp)
 have h3 := congrArg List.length h1
 rw [List.length_map] at h3
 have := hW.n0
 omega
theorem takes_len {i : D.Mach} (h : i.Op = 28 → i.Args.length ≤ 4) : (takesM i).length ≤ 4 := by
 unfold takesM
 repeat' split
 all_goals first | (rename_i h9; exact h h9) | simp
theorem makes_len {i : D.Mach} : (makesM i).length ≤ 2 := by
 unfold makesM
 repeat' split
 all_goals simp
theorem needs_len {e : D.End} : (nM9 e).length ≤ 2 := by
 unfold nM9
 repeat' split
 all_goals simp
theorem phiB_len (h : rightM m = true) (hb : b < m.Blocks.length) (k : Nat) : (((ix m.Blocks b).Phis.take k).flatMap phiB).length ≤ 513 * 16384 := by
 have h1 := flat_len (f := phiB) (c := 513) (l := (ix m.Blocks b).Phis.take k) (fun p hp => by have := right_in h hb p (List.mem_of_mem_take hp); simp [phiB]; omega)
 have h2 := (right_phis h hb).1
 rw [List.length_take] at h1
 have : min k (ix m.Blocks b).Phis.length ≤ 16384 := by omega
 have := Nat.mul_le_mul_left 513 this
 omega
theorem insB_len (h : rightM m = true) (hb : b < m.Blocks.length) (k : Nat) : (((ix m.Blocks b).Ins.take k).flatMap insB).length ≤ 6 * 16384 := by
 have h1 := flat_len (f := insB) (c := 6) (l := (ix m.Blocks b).Ins.take k) (fun i hi => by
   have h3 := takes_len (i := i) (fun h28 => ((right_wf h).ins _ (ix_mem hb) i (List.mem_of_mem_take hi) h28).2.2.1)
   have h4 := makes_len (i := i)
   simp only [insB,List.length_append]; omega)
 have h2 := (right_phis h hb).2
 rw [List.length_take] at h1
 have : min k (ix m.Blocks b).Ins.length ≤ 16384 := by omega
 have := Nat.mul_le_mul_left 6 this
 omega
theorem regB_rg (h : rightM m = true) (hb : b < m.Blocks.length) : ∀ r ∈ regB (ix m.Blocks b),Rg r := fun r hr => by
 obtain ⟨h1,h2,h3⟩ := (right_wl h).rg b hb
 unfold regB at hr
 rw [List.mem_append,List.mem_append] at hr
 rcases hr with (hr | hr) | hr
 · exact h2 r hr
 · obtain ⟨p,hp,hr⟩ := List.mem_flatMap.1 hr
   rcases List.mem_cons.1 hr with rfl | hr
   · exact (h3 p hp).1
   · obtain ⟨y,hy,rfl⟩ := List.mem_map.1 hr
     exact (h3 p hp).2 y hy
 · obtain ⟨i,hi,hr⟩ := List.mem_flatMap.1 hr
   rcases List.mem_append.1 hr with hr | hr
   · exact (h1 i hi).1 r hr
   · exact (h1 i hi).2 r hr
theorem bk_regs {r : Int} {x : D.MBlock} {p : Nat} (h : backB x p r false = true) : r ∈ regB x := by
 have h1 := bkB_or h
 unfold regB
 have key : ∀ {l : List D.Mach},bkB r l false = true → r ∈ l.flatMap insB := by
   intro l
   induction l with
   | nil => intro h; cases h
   | cons i l ih =>
     intro h
     rw [bkB] at h
     rw [List.flatMap_cons,List.mem_append]
     split at h
     · rename_i h2; left; exact List.mem_append.2 (.inl h2)
     · split at h
       · cases h
       · exact .inr (ih h)
 rcases h1 with h1 | ⟨h1,_⟩
 · have h2 := key h1
   obtain ⟨i,hi,h3⟩ := List.mem_flatMap.1 h2
   exact List.mem_append.2 (.inr (List.mem_flatMap.2 ⟨i,List.mem_of_mem_drop hi,h3⟩))
 · exact List.mem_append.2 (.inl (List.mem_append.2 (.inl (by simpa using h1))))
theorem regB_A {r : Int} (hb : b < m.Blocks.length) (h : r ∈ regB (ix m.Blocks b)) : r ∈ regA m := List.mem_append.2 (.inr (List.mem_flatMap.2 ⟨_,ix_mem hb,h⟩))
theorem LO.regs (hw : WL m.Blocks) {r : Int} (h : LO m.Blocks b r) : b < m.Blocks.length → r ∈ regA m := by
 induction h with
 | @phi b to r ht h1 =>
     intro hb
     refine regB_A (hw.t hb to ht) ?_
     obtain ⟨p,hp,h2⟩ := List.mem_flatMap.1 h1
     obtain ⟨y,hy,e⟩ := List.mem_map.1 h2
     exact List.mem_append.2 (.inl (List.mem_append.2 (.inr (List.mem_flatMap.2 ⟨p,hp,List.mem_cons.2 (.inr (List.mem_map.2 ⟨y,(List.mem_filter.1 hy).1,e⟩))⟩))))
 | @gen b to r ht h1 h2 => exact fun hb => regB_A (hw.t hb to ht) (bk_regs h2)
 | @thru b to r ht h1 h2 _ ih => exact fun hb => ih (hw.t hb to ht)
theorem regs_len : (regsM m).length ≤ 8192 := by
 unfold regsM
 rw [List.length_map]
 exact Nat.le_trans (List.length_filter_le _ _) (by simp)
end
set_option maxRecDepth 4000
theorem rNeedsG_ct {a0 : Value} {e : D.End} : Tg Tryz.prog 43 #[vEnd e a0] [da rEnd (vEnd e a0) e] [] (rI .i64) 3 (nM9 e) := by
 refine jenter (args := [vEnd e a0]) Tryz.func43 rfl rfl rfl fun w0 X => ?_
 refine jq (jr (jbox Z Z fun g1 => ja Z (jn (jx (jq (jq (jr (js (jf F35_0 Z) (js (jl k0 O3 Z Z) (jn ?_))))))))))
 refine jx (jb (jq (jq (jr (js (jeql Z Z) (ja Z (jn (jx ?_))))))))
 refine jif Z (fun hc1 => ?_) (fun hc1 => ?_)
 refine jsk (jx ?_)
 refine jif Z (fun hc2 => ?_) (fun hc2 => ?_)
 refine jq (jr (js (jf F35_1 Z) (js (jl k0 O3 Z Z) (jlit (r := (rI .i64)) (l := [e.A]) U22 I3 (by decide) Z Z Z (lV Z Z (wI (rEnd.W_A d0)) ln) fun g10 => ja Z (jn (jx (jrt (jbr (jtr ?_)))))))))
 exact jrG Z Z (by first | (simp [nM9,hc1,hc2]; done) | (unfold nM9; (repeat' split) <;> first | rfl | (exfalso; omega) | (simp [nM9,hc1,hc2]; done))) k0
 exact absurd hc2 (by simp [hc1])
 refine jr (js (jeql Z Z) (ja Z (jn (jx ?_))))
 refine jif Z (fun hc3 => ?_) (fun hc3 => ?_)
 refine jq (jr (js (jf F35_1 Z) (js (jl k0 O3 Z Z) (jlit (r := (rI .i64)) (l := [e.A]) U22 I3 (by decide) Z Z Z (lV Z Z (wI (rEnd.W_A d0)) ln) fun g10_1 => ja Z (jn (jx (jrt (jbr (jtr ?_)))))))))
 exact jrG Z Z (by first | (simp [nM9,hc1,hc3]; done) | (unfold nM9; (repeat' split) <;> first | rfl | (exfalso; omega) | (simp [nM9,hc1,hc3]; done))) k0
 refine jq (jq (jr (js (jeql Z Z) (ja Z (jn (jx ?_))))))
 refine jif Z (fun hc4 => ?_) (fun hc4 => ?_)
 refine jsk (jx ?_)
 refine jif Z (fun hc5 => ?_) (fun hc5 => ?_)
 refine jq (jr (js (jf F35_1 Z) (js (jl k0 O3 Z Z) (js (jf F35_2 Z) (js (jl k0 O3 Z Z) (jlit (r := (rI .i64)) (l := [e.A,e.B]) U22 I3 (by decide) Z Z Z (lV Z Z (wI (rEnd.W_A d0)) (lV Z Z (wI (rEnd.W_B d0)) ln)) fun g19 => ja Z (jn (jx (jrt (jbr ?_))))))))))
 refine jtr ?_
 exact jrG Z Z (by first | (simp [nM9,hc1,hc3,hc4,hc5]; done) | (unfold nM9; (repeat' split) <;> first | rfl | (exfalso; omega) | (simp [nM9,hc1,hc3,hc4,hc5]; done))) k0
 exact absurd hc5 (by simp [hc1,hc3,hc4])
 refine jq (jr (js (jeql Z Z) (ja Z (jn (jx ?_)))))
 refine jif Z (fun hc6 => ?_) (fun hc6 => ?_)
 refine jsk (jx ?_)
 refine jif Z (fun hc7 => ?_) (fun hc7 => ?_)
 refine jq (jr (js (jf F35_1 Z) (js (jl k0 O3 Z Z) (js (jf F35_2 Z) (js (jl k0 O3 Z Z) (jlit (r := (rI .i64)) (l := [e.A,e.B]) U22 I3 (by decide) Z Z Z (lV Z Z (wI (rEnd.W_A d0)) (lV Z Z (wI (rEnd.W_B d0)) ln)) fun g19_2 => ja Z (jn (jx (jrt (jbr ?_))))))))))
 refine jtr ?_
 exact jrG Z Z (by first | (simp [nM9,hc1,hc3,hc4,hc6,hc7]; done) | (unfold nM9; (repeat' split) <;> first | rfl | (exfalso; omega) | (simp [nM9,hc1,hc3,hc4,hc6,hc7]; done))) k0
 exact absurd hc7 (by simp [hc1,hc3,hc4,hc6])
 refine jr (js (jeql Z Z) (ja Z (jn (jx ?_))))
 refine jif Z (fun hc8 => ?_) (fun hc8 => ?_)
 refine jq (jr (js (jf F35_1 Z) (js (jl k0 O3 Z Z) (js (jf F35_2 Z) (js (jl k0 O3 Z Z) (jlit (r := (rI .i64)) (l := [e.A,e.B]) U22 I3 (by decide) Z Z Z (lV Z Z (wI (rEnd.W_A d0)) (lV Z Z (wI (rEnd.W_B d0)) ln)) fun g19_3 => ja Z (jn (jx (jrt (jbr ?_))))))))))
 refine jtr ?_
 exact jrG Z Z (by first | (simp [nM9,hc1,hc3,hc4,hc6,hc8]; done) | (unfold nM9; (repeat' split) <;> first | rfl | (exfalso; omega) | (simp [nM9,hc1,hc3,hc4,hc6,hc8]; done))) k0
 refine jq (jr (js (jeql Z Z) (ja Z (jn (jx ?_)))))
 refine jif Z (fun hc9 => ?_) (fun hc9 => ?_)
 refine jq (jr (js (jf F35_1 Z) (js (jl k0 O3 Z Z) (js (jgeq Z Z) (jn (jx ?_))))))
 refine jif Z (fun hc10 => ?_) (fun hc10 => ?_)
 refine jq (jr (js (jf F35_1 Z) (js (jl k0 O3 Z Z) (jlit (r := (rI .i64)) (l := [e.A]) U22 I3 (by decide) Z Z Z (lV Z Z (wI (rEnd.W_A d0)) ln) fun g27 => ja Z (jn (jx (jrt (jbr (jtr ?_)))))))))
 exact jrG Z Z (by first | (simp [nM9,hc1,hc3,hc4,hc6,hc8,hc9,hc10]; done) | (unfold nM9; (repeat' split) <;> first | rfl | (exfalso; omega) | (simp [nM9,hc1,hc3,hc4,hc6,hc8,hc9,hc10]; done))) k0
 refine jsk (jbn (jx (jq (jr (ja Z (jn (jx (jrt (qnl (r := (rI .i64)) (E := 3) ?_)))))))))
 exact jrG Z Z (by first | (simp [nM9,hc1,hc3,hc4,hc6,hc8,hc9,hc10]; done) | (unfold nM9; (repeat' split) <;> first | rfl | (exfalso; omega) | (simp [nM9,hc1,hc3,hc4,hc6,hc8,hc9,hc10]; done))) k0
 refine jsk (jbn (jx (jq (jr (ja Z (jn (jx (jrt (qnl (r := (rI .i64)) (E := 3) ?_)))))))))
 exact jrG Z Z (by first | (simp [nM9,hc1,hc3,hc4,hc6,hc8,hc9]; done) | (unfold nM9; (repeat' split) <;> first | rfl | (exfalso; omega) | (simp [nM9,hc1,hc3,hc4,hc6,hc8,hc9]; done))) k0
theorem regs_ct {a0 : Value} {m : D.MFunc} (hr : rightM m = true) : Td Tryz.prog 20 #[vMFunc m a0] [da rMFunc (vMFunc m a0) m] [] (rL (rI .i64)) (regsM m) := by
 refine jenter (args := [vMFunc m a0]) Tryz.func20 rfl rfl rfl fun w0 X => ?_
 have hw := right_wl hr
 have hn0 := (right_wf hr).n0
 have hnP := (right_wf hr).p0
 refine jq (jr (jbox Z Z fun g1 => ja Z (jn (jx (jq (jr (jmk (m := 8192) (r := rB) U93 I4 Z Z Z Z Z (by omega) wB Z fun g14 => ja Z (jn (jx ?_)))))))))
 refine jq (jq (jr (ja Z (jn (jx (jb ?_))))))
 refine jlp (u2 fun (i : Nat) (m1 : List Bool) => ⟨i ≤ Int.toNat m.Params ∧ MK ((List.range i).map (fun k : Nat => (k : Int))) m1,[da rMFunc (vMFunc m a0) m],[gl X.n rB 4 (.slice (some ⟨g14,0,none⟩) 8192 8192) m1,bx g1 28 [.int .i64 m.Params,a0]],[(1,.pointer (some ⟨g1,0,none⟩)),(2,.slice none 0 0),(3,(.slice (some ⟨g14,0,none⟩) 8192 8192)),(4,.int .i64 (↑i))],Int.toNat m.Params - i⟩) (0,List.replicate 8192 false) ⟨by dsimp only; omega,MK.beg⟩ (dc d0 dn) (kd kn) ⟨Z,Z,Z,eqI (by omega),trivial⟩ ?_
 rintro ⟨i,m1⟩; dsimp only [u2]; rintro ⟨hi,hm1⟩
 have hl1 := hm1.n
 refine jq (jq (jr (jm Z (js (jf F28_0 Z) (js (jl k1 O3 Z Z) (js (jlss Z Z) (jn (jx ?_))))))))
 refine jif Z (fun hc1 => ?_) (fun hc1 => ?_)
 refine jsk (jx (jq (jb (jr (jm Z (jm Z (js (jig U93 Z4 k0 Z Z Z (by omega)) (jsg k0 Z Z4 Z Z Z (by omega) wB (jn (jbn (jx ?_)))))))))))
 refine jr (jm Z (js (jadd Z Z (by omega)) (ja Z (jn ?_))))
 exact jag (i + 1,List.set m1 i true) ⟨by dsimp only; omega,by dsimp only; exact (hm1.set (r := (i : Int)) (by unfold Rg; omega)).of (by rw [List.range_succ,List.map_append]; rfl)⟩ (dc d0 dn) (kd kn) ⟨Z,Z,Z,eqI (by omega),trivial⟩
 refine jex (jtx (jtx (jbh (jx (jq (jq (jr (ja Z (jn (jx (jb ?_)))))))))))
 have hm19 : MK (parB m) m1 := hm1.of (by rw [show i = Int.toNat m.Params by omega]; rfl)
 refine jlp (u2 fun (b : Nat) (m2 : List Bool) => ⟨b ≤ m.Blocks.length ∧ MK (parB m ++ (m.Blocks.take b).flatMap regB) m2,[da rMFunc (vMFunc m a0) m],[gl X.n rB 4 (.slice (some ⟨g14,0,none⟩) 8192 8192) m2,bx g1 28 [.int .i64 m.Params,a0]],[(1,.pointer (some ⟨g1,0,none⟩)),(2,.slice none 0 0),(3,(.slice (some ⟨g14,0,none⟩) 8192 8192)),(5,.int .i64 (↑b))],m.Blocks.length - b⟩) (0,m1) ⟨by dsimp only; omega,by dsimp only; exact hm19.of (by simp)⟩ (dc d0 dn) (kd kn) ⟨Z,Z,Z,eqI (by omega),trivial⟩ ?_
 rintro ⟨b,m2⟩; dsimp only [u2]; rintro ⟨hb,hm2⟩
 have hl2 := hm2.n
 refine jq (jq (jr (jm Z (js (jf F28_1 Z) (js (jl k1 O26 Z Z) (jdq (rMFunc.cB d0) fun q1 w1 => js (jln U26 (rMFunc.cB d0) Z) (js (jlss Z Z) (jn (jx ?_)))))))))
 refine jif Z (fun hc2 => ?_) (fun hc2 => ?_)
 refine jsk (jx (jq (jb (jq (jr (js (jf F28_1 Z) (js (jl k1 O26 Z Z) (jm Z (js (jix U26 Z37 (rMFunc.cB d0) Z Z Z (by omega)) (js (jf F37_2 Z) (jA sEnd (jlA (rMBlock.A_End (dix (rMFunc.cB d0) b (by omega))) A35 Z35 Z) fun c36 => ?_)))))))))))
 refine jcg E43 Z Z rNeedsG_ct (dc d0 dn) kn fun v37 w3 => ja Z (jn (jx (jq (jq (jr (ja Z (jn (jx (jb ?_)))))))))
 have hbb : b < m.Blocks.length := by omega
 have hnl := needs_len (e := (ix m.Blocks b).End)
 have hpk := right_phis hr hbb
 refine jlp (u3 fun (k : Nat) (l3 : List Int) (v3 : Value) => ⟨k ≤ (ix m.Blocks b).Phis.length ∧ l3 = nM9 (ix m.Blocks b).End ++ ((ix m.Blocks b).Phis.take k).flatMap phiB,[da rMFunc (vMFunc m a0) m],[gl X.n (rI .i64) 3 v3 l3,gl X.n rB 4 (.slice (some ⟨g14,0,none⟩) 8192 8192) m2,bx g1 28 [.int .i64 m.Params,a0]],[(1,.pointer (some ⟨g1,0,none⟩)),(2,.slice none 0 0),(3,(.slice (some ⟨g14,0,none⟩) 8192 8192)),(5,.int .i64 (↑b)),(6,v3),(7,.int .i64 (↑k))],(ix m.Blocks b).Phis.length - k⟩) (0,nM9 ((ix m.Blocks b).End),v37) ⟨by dsimp only; omega,by dsimp only; simp⟩ (dc d1 dn) (kd (kc k0 kn)) ⟨Z,Z,Z,Z,Z,eqI (by omega),trivial⟩ ?_
 rintro ⟨k,l3,v3⟩; dsimp only [u3]; rintro ⟨hk,hl3⟩
 refine cgo k0 fun w4 => ?_
 have hl3l : l3.length ≤ 9000000 := by have := phiB_len hr hbb k; rw [hl3,List.length_append]; omega
 refine jq (jq (jr (jm Z (js (jf F28_1 Z) (js (jl k2 O26 Z Z) (jm Z (js (jix U26 Z37 (rMFunc.cB d0) Z Z Z (by omega)) (js (jf F37_0 Z) (jev (jlV (rMBlock.A_Phis (dix (rMFunc.cB d0) b (by omega))) O32 Z Z) fun v44 q5 w5 => js (jln U32 d0 Z) (js (jlss Z Z) ?_))))))))))
 refine jn (jx ?_)
 refine jif Z (fun hc3 => ?_) (fun hc3 => ?_)
 refine jsk (jx (jq (jb (jq (jr (js (jf F28_1 Z) (js (jl k2 O26 Z Z) (jm Z (js (jix U26 Z37 (rMFunc.cB d1) Z Z Z (by omega)) (js (jf F37_0 Z) (jev (jlV (rMBlock.A_Phis (dix (rMFunc.cB d1) b (by omega))) O32 Z Z) fun v54 q7 w7 => ?_)))))))))))
 refine jm Z (js (jix U32 Z62 d0 Z Z Z (by omega)) (jA sPhi (jlA (dix d0 k (by omega)) A62 Z62 Z) fun c57 => jalc J62 Z fun g8 => jdq (rPhi.c_In d0) fun q10 w10 => jsta k0 Z62 Z Z Z ⟨Z,w10.one,trivial⟩ (saf Z) (jn (jx (jq (jr (jm Z (js (jf F62_0 Z) ?_))))))))
 refine js (jl k0 O3 Z Z) (japv U22 I3 (by decide) Z Z k1 Z (wI (rPhi.W_Dst d0)) (by omega) (fun _ => Z) fun v62 _ w11 => ja Z (jn (jx (jq (jr (ja Z (jn (jx (jb ?_)))))))))
 have hkk : k < (ix m.Blocks b).Phis.length := by omega
 have hin := right_in hr hbb _ (ix_mem hkk)
 refine jlp (u3 fun (j : Nat) (l4 : List Int) (v4 : Value) => ⟨j ≤ (ix (ix m.Blocks b).Phis k).In.length ∧ l4 = l3 ++ ((ix (ix m.Blocks b).Phis k).Dst :: ((ix (ix m.Blocks b).Phis k).In.take j).map (fun y => y.Val)),[da rPhi (vPhi (ix ((ix m.Blocks b).Phis) k) c57) (ix ((ix m.Blocks b).Phis) k),da rMFunc (vMFunc m a0) m],[gl X.n (rI .i64) 3 v4 l4,bx g8 62 [.int .i64 ((ix ((ix m.Blocks b).Phis) k).Dst),c57],gl X.n rB 4 (.slice (some ⟨g14,0,none⟩) 8192 8192) m2,bx g1 28 [.int .i64 m.Params,a0]],[(1,.pointer (some ⟨g1,0,none⟩)),(2,.slice none 0 0),(3,(.slice (some ⟨g14,0,none⟩) 8192 8192)),(5,.int .i64 (↑b)),(6,v4),(7,.int .i64 (↑k)),(8,.pointer (some ⟨g8,0,none⟩)),(9,.int .i64 (↑j))],(ix (ix m.Blocks b).Phis k).In.length - j⟩) (0,l3 ++ [(ix ((ix m.Blocks b).Phis) k).Dst],v62) ⟨by dsimp only; omega,rfl⟩ (dc d0 (dc d3 dn)) (kd (kd kn)) ⟨Z,Z,Z,Z,Z,Z,Z,eqI (by omega),trivial⟩ ?_
 rintro ⟨j,l4,v4⟩; dsimp only [u3]; rintro ⟨hj,hl4⟩
 refine cgo k0 fun w12 => ?_
 have hl4l : l4.length ≤ 9001000 := by rw [hl4]; simp only [List.length_append,List.length_cons,List.length_map,List.length_take]; omega
 refine jq (jq (jr (jm Z (js (jf F62_1 Z) (js (jl k1 O60 Z Z) (js (jln U60 (rPhi.c_In d0) Z) (js (jlss Z Z) (jn (jx ?_)))))))))
 refine jif Z (fun hc4 => ?_) (fun hc4 => ?_)
 refine jsk (jx (jq (jb (jr (jm Z (js (jf F62_1 Z) (js (jl k1 O60 Z Z) (jm Z (js (jix U60 Z64 (rPhi.c_In d0) Z Z Z (by omega)) (js (jf F64_1 Z) (js (jlI (rIn.A_Val (dix (rPhi.c_In d0) j (by omega))) O3 Z) ?_)))))))))))
 refine japv U22 I3 (by decide) Z Z k0 Z (wI (wad (rIn.A_Val (dix (rPhi.c_In d0) j (by omega))))) (by omega) (fun _ => Z) fun v78 _ w13 => ja Z (jn (jbn (jx (jr (jm Z (js (jadd Z Z (by omega)) (ja Z (jn ?_))))))))
 exact jag (j + 1,l4 ++ [(ix ((ix ((ix m.Blocks b).Phis) k).In) j).Val],v78) ⟨by dsimp only; omega,by dsimp only; rw [hl4,take_ix (by omega),List.map_append,← List.cons_append,List.append_assoc]; rfl⟩ (dc d0 (dc d1 dn)) (kd (kd kn)) ⟨Z,Z,Z,Z,Z,Z,Z,eqI (by omega),trivial⟩
 refine jex (jtx (jtx (jbh (jbn (jx (jr (jm Z (js (jadd Z Z (by omega)) (ja Z (jn ?_))))))))))
 exact jag (k + 1,l4,v4) ⟨by dsimp only; omega,by dsimp only; rw [hl4,hl3,List.take_of_length_le (l := (ix (ix m.Blocks b).Phis k).In) (by omega),flat_next (by omega),List.append_assoc]; rfl⟩ (dc d1 dn) (kc k0 (kc k1 (kc k1 kn))) ⟨Z,Z,Z,Z,Z,eqI (by omega),trivial⟩
 refine jex (jtx (jtx (jbh (jx (jq (jq (jr (ja Z (jn (jx (jb ?_)))))))))))
 refine jlp (u3 fun (i5 : Nat) (l5 : List Int) (v5 : Value) => ⟨i5 ≤ (ix m.Blocks b).Ins.length ∧ l5 = nM9 (ix m.Blocks b).End ++ (ix m.Blocks b).Phis.flatMap phiB ++ ((ix m.Blocks b).Ins.take i5).flatMap insB,[da rMFunc (vMFunc m a0) m],[gl X.n (rI .i64) 3 v5 l5,gl X.n rB 4 (.slice (some ⟨g14,0,none⟩) 8192 8192) m2,bx g1 28 [.int .i64 m.Params,a0]],[(1,.pointer (some ⟨g1,0,none⟩)),(2,.slice none 0 0),(3,(.slice (some ⟨g14,0,none⟩) 8192 8192)),(5,.int .i64 (↑b)),(6,v5),(10,.int .i64 (↑i5))],(ix m.Blocks b).Ins.length - i5⟩) (0,l3,v3) ⟨by dsimp only; omega,by dsimp only; rw [hl3,List.take_of_length_le (by omega)]; simp⟩ (dc d1 dn) (kd (kc k0 kn)) ⟨Z,Z,Z,Z,Z,eqI (by omega),trivial⟩ ?_
 rintro ⟨i5,l5,v5⟩; dsimp only [u3]; rintro ⟨hi5,hl5⟩
 refine cgo k0 fun w14 => ?_
 have hl5l : l5.length ≤ 9500000 := by have := phiB_len hr hbb (ix m.Blocks b).Phis.length; rw [List.take_length] at this; have := insB_len hr hbb i5; rw [hl5]; simp only [List.length_append]; omega
 refine jq (jq (jr (jm Z (js (jf F28_1 Z) (js (jl k2 O26 Z Z) (jm Z (js (jix U26 Z37 (rMFunc.cB d0) Z Z Z (by omega)) (js (jf F37_1 Z) (jev (jlV (rMBlock.A_Ins (dix (rMFunc.cB d0) b (by omega))) O33 Z Z) fun v85 q15 w15 => js (jln U33 d0 Z) (js (jlss Z Z) ?_))))))))))
 refine jn (jx ?_)
 refine jif Z (fun hc5 => ?_) (fun hc5 => ?_)
 refine jsk (jx (jq (jb (jany false (.a 0 (.a 1 (.a 2 (.a 3 (.a 4 (.a 5 (.a 6 (.a 7 (.a 8 (.a 9 (.a 12 (.a 13 (.a 14 (.a 15 (.a 16 (.a 17 (.a 18 (.a 19 (.a 20 (.o 10 (.o 11 (.o 21 (.o 22 (.a 23 .e)))))))))))))))))))))))) Mixed (by kernel_rfl) (kc k2 kn) fun F17 => jy Z (jmv Z) (jy Z (jf F28_1 Z) (jy Z (jl k0 O26 Z Z) (jy Z (jmv Z) (jy Z (jix U26 Z37 (rMFunc.cB d1) Z Z Z (by omega)) (jy Z (jf F37_1 Z) (jye (q := fun v => dv (rL rMach) v ((ix m.Blocks b).Ins)) Z (xlV (rMBlock.A_Ins (dix (rMFunc.cB d1) b (by omega))) O33 Z Z) fun v96 => ?_))))))))))
 refine jy Z (jmv Z) (adq d0 fun q19 w19 => jy Z (jix U33 Z69 d0 Z Z Z (by omega)) (jyA sMach Z (xlA (dix d0 i5 (by omega)) A69 Z69 Z) fun c99 => jy Z (jf F28_1 Z) (jy Z (jl k0 O26 Z Z) (jy Z (jmv Z) (jy Z (jix U26 Z37 (rMFunc.cB d3) Z Z Z (by omega)) (jy Z (jf F37_1 Z) (jye (q := fun v => dv (rL rMach) v ((ix m.Blocks b).Ins)) Z (xlV (rMBlock.A_Ins (dix (rMFunc.cB d3) b (by omega))) O33 Z Z) fun v107 => jy Z (jmv Z) (adq d0 fun q22 w22 => ?_))))))))
 refine jy Z (jix U33 Z69 d0 Z Z Z (by omega)) (jyA sMach Z (xlA (dix d0 i5 (by omega)) A69 Z69 Z) fun c110 => jyo Z (jcd E44 Z Z rTakes_ct (dc d3 dn) kn fun v100 q25 w25 => jyn d1 (kc k2 kn) (jyo Z (japl U22 I3 (by decide) Z k0 Z Z d1 (by (try simp) <;> omega) fun v101 w28 => jyn d0 (kc k2 kn) (jyo Z (jcd E45 Z Z rMakes_ct (dc d4 dn) kn fun v111 q30 w30 => jyn d1 (kc k2 kn) (jyo Z ?_)))))))
 refine japl U22 I3 (by decide) Z k0 Z Z d1 (by (try simp) <;> omega) fun v112 w33 => jyn d0 (kc k2 kn) (jy Z (jas Z) (jyd (jbn (jx (jr (jm Z (js (jadd Z Z (by omega)) (ja Z (jn ?_)))))))))
 exact jag (i5 + 1,(l5 ++ (takesM (ix ((ix m.Blocks b).Ins) i5))) ++ (makesM (ix ((ix m.Blocks b).Ins) i5)),v112) ⟨by dsimp only; omega,by dsimp only; rw [hl5,flat_next (by omega)]; simp only [insB,List.append_assoc]⟩ (dc d11 dn) (kd (kc k0 kn)) ⟨Z,Z,Z,Z,Z,eqI (by omega),trivial⟩
 refine jex (jtx (jtx (jbh (jx (jq (jr (ja Z (jn (jx (jb ?_))))))))))
 have hl59 : l5 = regB (ix m.Blocks b) := by rw [hl5,List.take_of_length_le (by omega)]; rfl
 have hrg : ∀ r ∈ l5,Rg r := by rw [hl59]; exact regB_rg hr hbb
 refine jlp (u2 fun (j6 : Nat) (m6 : List Bool) => ⟨j6 ≤ l5.length ∧ MK ((parB m ++ (m.Blocks.take b).flatMap regB) ++ l5.take j6) m6,[da rMFunc (vMFunc m a0) m],[gl X.n (rI .i64) 3 v5 l5,gl X.n rB 4 (.slice (some ⟨g14,0,none⟩) 8192 8192) m6,bx g1 28 [.int .i64 m.Params,a0]],[(1,.pointer (some ⟨g1,0,none⟩)),(2,.slice none 0 0),(3,(.slice (some ⟨g14,0,none⟩) 8192 8192)),(5,.int .i64 (↑b)),(6,v5),(11,.int .i64 (↑j6))],l5.length - j6⟩) (0,m2) ⟨by dsimp only; omega,by dsimp only; exact hm2.of (by simp)⟩ (dc d1 dn) (kd (kc k0 kn)) ⟨Z,Z,Z,Z,Z,eqI (by omega),trivial⟩ ?_
 rintro ⟨j6,m6⟩; dsimp only [u2]; rintro ⟨hj6,hm6⟩
 have hl6 := hm6.n
 refine jq (jq (jr (jm Z (jm Z (js (jlg U22 k0 Z) (js (jlss Z Z) (jn (jx ?_))))))))
 refine jif Z (fun hc6 => ?_) (fun hc6 => ?_)
 have hrj : Rg (ix l5 j6) := hrg _ (ix_mem (by omega))
 have hrj2 : 0 ≤ ix l5 j6 ∧ ix l5 j6 < 8192 := hrj
 refine jsk (jx (jq (jb (jr (jm Z (jm Z (jm Z (js (jig U22 Z3 k0 Z Z Z (by omega)) (js (jgI k0 (by omega) O3 Z) (js (jig (i := (Int.toNat (ix l5 j6))) U93 Z4 k1 Z Z (by omega) (by omega)) (jsg k1 Z Z4 Z Z Z (by omega) wB ?_)))))))))))
 refine jn (jbn (jx (jr (jm Z (js (jadd Z Z (by omega)) (ja Z (jn ?_)))))))
 exact jag (j6 + 1,List.set m6 (Int.toNat (ix l5 j6)) true) ⟨by dsimp only; omega,by dsimp only; exact (hm6.set hrj).of (by rw [take_ix (by omega),List.append_assoc])⟩ (dc d0 dn) (kc k1 (kd kn)) ⟨Z,Z,Z,Z,Z,eqI (by omega),trivial⟩
 refine jex (jtx (jtx (jbh (jbn (jx (jr (jm Z (js (jadd Z Z (by omega)) (ja Z (jn ?_))))))))))
 exact jag (b + 1,m6) ⟨by dsimp only; omega,by dsimp only; exact hm6.of (by rw [flat_next hbb,List.take_of_length_le (l := l5) (by omega),hl59,List.append_assoc])⟩ (dc d0 dn) (kc k1 (kc k1 kn)) ⟨Z,Z,Z,eqI (by omega),trivial⟩
 refine jex (jtx (jtx (jbh (jx (jq (jr (jlit (r := (rI .i64)) (l := []) U22 I3 (by decide) Z Z Z ln fun g125 => ja Z (jn (jx (jq ?_))))))))))
 refine jq (jr (ja Z (jn (jx (jb ?_)))))
 have hm29 : MK (regA m) m2 := hm2.of (by rw [List.take_of_length_le (by omega)]; rfl)
 refine jlp (u3 fun (k7 : Nat) (rs : List Int) (vr : Value) => ⟨k7 ≤ 8192 ∧ rs = ((List.range k7).filter (fun k : Nat => decide ((k : Int) ∈ regA m))).map (fun k : Nat => (k : Int)),[],[gl X.n (rI .i64) 3 vr rs,gl X.n rB 4 (.slice (some ⟨g14,0,none⟩) 8192 8192) m2],[(2,.slice none 0 0),(3,(.slice (some ⟨g14,0,none⟩) 8192 8192)),(12,vr),(13,.int .i64 (↑k7))],8192 - k7⟩) (0,[],(.slice (some ⟨g125,0,none⟩) 0 0)) ⟨by dsimp only; omega,rfl⟩ dn (kd kn) ⟨Z,Z,Z,eqI (by omega),trivial⟩ ?_
 rintro ⟨k7,rs,vr⟩; dsimp only [u3]; rintro ⟨hk7,hrs⟩
 refine cgo k0 fun w34 => ?_
 have hrl : rs.length ≤ 8192 := by rw [hrs,List.length_map]; exact Nat.le_trans (List.length_filter_le _ _) (by rw [List.length_range]; exact hk7)
 refine jq (jq (jr (jm Z (jm Z (js (jlg U93 k1 Z) (js (jlss Z Z) (jn (jx ?_))))))))
 refine jif Z (fun hc7 => ?_) (fun hc7 => ?_)
 refine jsk (jx (jq (jb (jq (jr (jm Z (jm Z (js (jig U93 Z4 k1 Z Z Z (by omega)) (js (jgB k1 (by omega) O4 Z) (jn (jx ?_)))))))))))
 refine jif Z (fun hc8 => ?_) (fun hc8 => ?_)
 refine jr (jm Z (jm Z (japv U22 I3 (by decide) Z Z k0 Z (wI (wp (IntWalk.i64_in _ (by omega)))) (by omega) (fun _ => Z) fun v139 _ w35 => ja Z (jn (jbn (jx (jr (jm Z (js (jadd Z Z (by omega)) (ja Z ?_))))))))))
 refine jn ?_
 exact jag (k7 + 1,rs ++ [((k7 : Nat) : Int)],v139) ⟨by dsimp only; omega,by dsimp only; rw [filt_next,← hrs]; rw [if_pos (by rw [← hm29.s k7 (by omega)]; exact hc8)]⟩ dn (kd kn) ⟨Z,Z,Z,eqI (by omega),trivial⟩
 refine jsk (jbn (jx (jr (jm Z (js (jadd Z Z (by omega)) (ja Z (jn ?_)))))))
 exact jag (k7 + 1,rs,vr) ⟨by dsimp only; omega,by dsimp only; rw [filt_next,← hrs]; rw [if_neg (by rw [← hm29.s k7 (by omega)]; simp [hc8]),List.append_nil]⟩ dn (kd kn) ⟨Z,Z,Z,eqI (by omega),trivial⟩
 refine jex (jtx (jtx (jbh (jx (jq (jr (jm Z (ja Z (jn (jx (jrt ?_)))))))))))
 refine qfz k0 (by omega) ?_
 exact jrD Z Z (by rw [regsM,hrs,show k7 = 8192 by omega]) d0
end Go.Proofs.YtehhjlkmbdhckaaGreat
namespace Go.Proofs.YtehhjlkmbdhckaaGreat
open Go.JE
theorem at_f {m : D.MFunc} {b p : Nat} {r : Int} : backB (ix m.Blocks b) p r (decide (r ∈ ix (loE m.Blocks) b)) = decide (r ∈ atE m.Blocks b p) := by
 rw [Bool.eq_iff_iff,decide_eq_true_eq]; unfold atE; exact sAt_back.symm
theorem filter_next {l : List Int} {f : Int → Bool} {k : Nat} (h : k < l.length) : (l.take (k + 1)).filter f = (l.take k).filter f ++ if f (ix l k) = true then [ix l k] else [] := by
 rw [take_ix h,List.filter_append]
 congr 1
 by_cases h9 : f (ix l k) = true
 · simp [h9]
 · simp [h9]
def madeM (m : D.MFunc) (b p r : Int) : Bool :=
 if 0 < p then hasL (makesM (ix (ix m.Blocks (Int.toNat b)).Ins (Int.toNat (p - 1)))) r
 else hasL (dsts (ix m.Blocks (Int.toNat b))) r || (decide (b = 0) && decide (0 ≤ r) && decide (r < m.Params))
theorem has_f {m : D.MFunc} {b p : Nat} {r : Int} : (backB (ix m.Blocks b) p r (decide (r ∈ ix (loE m.Blocks) b)) || madeM m b p r) = decide (r ∈ hasE m b p) := by
 rw [at_f]
 unfold madeM hasE hasL
 rw [show Int.toNat (b : Int) = b by omega]
 rcases Nat.eq_zero_or_pos p with h | h
 · subst h
   rw [if_neg (by omega),if_neg (by omega)]
   by_cases hb : b = 0
   · subst hb
     rw [if_pos rfl,Bool.eq_iff_iff]
     simp only [Bool.or_eq_true,Bool.and_eq_true,decide_eq_true_eq]
     rw [uniS_mem,uniS_mem]
     constructor
     · rintro (h | h | ⟨⟨_,h1⟩,h2⟩)
       · exact .inl (.inl h)
       · exact .inl (.inr h)
       · exact .inr (List.mem_map.2 ⟨Int.toNat r,by rw [List.mem_range]; omega,by omega⟩)
     · rintro ((h | h) | h)
       · exact .inl h
       · exact .inr (.inl h)
       · obtain ⟨k,hk,e⟩ := List.mem_map.1 h
         rw [List.mem_range] at hk
         exact .inr (.inr (by subst e; refine ⟨⟨rfl,by omega⟩,by omega⟩))
   · rw [if_neg hb,Bool.eq_iff_iff]
     simp only [Bool.or_eq_true,Bool.and_eq_true,decide_eq_true_eq]
     rw [uniS_mem]
     constructor
     · rintro (h | h | ⟨⟨h,_⟩,_⟩)
       · exact .inl h
       · exact .inr h
       · omega
     · rintro (h | h)
       · exact .inl h
       · exact .inr (.inl h)
 · rw [if_pos (by omega),if_pos h,Bool.eq_iff_iff]
   simp only [Bool.or_eq_true,decide_eq_true_eq]
   rw [uniS_mem,show Int.toNat ((p : Int) - 1) = p - 1 by omega]
def hasesM (m : D.MFunc) (r : Int) : List Bool := if rightM m = true then (preP m m.Blocks.length 0).map (fun x => decide (r ∈ hasE m x.1 x.2)) else []
theorem preP_all {m : D.MFunc} (h : ∀ b,b < m.Blocks.length → (ix m.Blocks b).Ins.length < 1000000) (hn : m.Blocks.length ≤ 512) : (preP m m.Blocks.length 0).length ≤ 512000000 := by
 have := preP_bd h (b := m.Blocks.length) (Nat.le_refl _); omega
theorem tog_fold {α : Type} {f : α → List Int} {a b : Int} : ∀ (l : List (α × Nat)) (s : Bool),l.foldl (fun s x => togS a b s x.2 (f x.1)) s = (s || l.any (fun x => decide (a ∈ f x.1) && decide (b ∈ f x.1)))
 | [],s => by simp
 | x :: l,s => by rw [List.foldl_cons,tog_fold l,List.any_cons,togS,Bool.or_assoc]
theorem any_zipIdx {α : Type} {g : α → Bool} : ∀ (l : List α) (k : Nat),(l.zipIdx k).any (fun x => g x.1) = l.any g
 | [],_ => rfl
 | x :: l,k => by rw [List.zipIdx_cons,List.any_cons,List.any_cons,any_zipIdx l]
theorem togM_any {m : D.MFunc} {a b : Int} (hr : rightM m = true) : togM m a b = (preP m m.Blocks.length 0).any (fun x => decide (a ∈ hasE m x.1 x.2) && decide (b ∈ hasE m x.1 x.2)) := by
 unfold togM stM
 rw [if_pos hr,tog_fold (f := fun x : Nat × Nat => hasE m x.1 x.2),Bool.false_or]
 exact any_zipIdx (g := fun x : Nat × Nat => decide (a ∈ hasE m x.1 x.2) && decide (b ∈ hasE m x.1 x.2)) _ 0
theorem tog_wrong {m : D.MFunc} {a b : Int} (hr : rightM m = false) : togM m a b = false := by unfold togM; rw [if_neg (by simp [hr])]
theorem hases_wrong {m : D.MFunc} {r : Int} (hr : rightM m = false) : hasesM m r = [] := by unfold hasesM; rw [if_neg (by simp [hr])]
theorem hases_len {m : D.MFunc} {r r' : Int} : (hasesM m r).length = (hasesM m r').length := by unfold hasesM; split <;> simp
theorem hases_ix {m : D.MFunc} {r : Int} (hr : rightM m = true) {k : Nat} (hk : k < (preP m m.Blocks.length 0).length) : ix (hasesM m r) k = decide (r ∈ hasE m ((preP m m.Blocks.length 0)[k]).1 ((preP m m.Blocks.length 0)[k]).2) := by
 unfold hasesM; rw [if_pos hr,ix_eq (by simpa using hk)]; simp
theorem tog_yes {m : D.MFunc} {a b : Int} {k : Nat} (hk : k < (hasesM m a).length) (h : ix (hasesM m a) k = true ∧ ix (hasesM m b) k = true) : togM m a b = true := by
 cases hr : rightM m with
 | false => rw [hases_wrong hr] at hk; cases hk
 | true =>
   have hk' : k < (preP m m.Blocks.length 0).length := by unfold hasesM at hk; rw [if_pos hr] at hk; simpa using hk
   rw [hases_ix hr hk',hases_ix hr hk'] at h
   rw [togM_any hr,List.any_eq_true]
   exact ⟨_,List.getElem_mem hk',by rw [h.1,h.2]; rfl⟩
theorem tog_no {m : D.MFunc} {a b : Int} (h : ∀ j,j < (hasesM m a).length → ¬ (ix (hasesM m a) j = true ∧ ix (hasesM m b) j = true)) : togM m a b = false := by
 cases hr : rightM m with
 | false => exact tog_wrong hr
 | true =>
   rw [togM_any hr,List.any_eq_false]
   intro x hx
   obtain ⟨k,hk,e⟩ := List.getElem_of_mem hx
   have h1 := h k (by unfold hasesM; rw [if_pos hr]; simpa using hk)
   rw [hases_ix hr hk,hases_ix hr hk,e] at h1
   simpa using h1
structure GR (m : D.MFunc) (b i : Nat) (f : Nat → Int → Bool) (rs : List (List Int)) : Prop where
 n : rs.length = m.Blocks.length
 s : ∀ j,j < m.Blocks.length → ix rs j = ((regsM m).take (if j < b then i + 1 else i)).filter (f j)
theorem GR.beg {m : D.MFunc} {f : Nat → Int → Bool} : GR m 0 0 f (List.replicate m.Blocks.length []) := ⟨by simp,fun j hj => by rw [ix_eq (by simpa using hj)]; simp⟩
theorem GR.blk {m : D.MFunc} {b i : Nat} {f : Nat → Int → Bool} {rs : List (List Int)} (h : GR m b i f rs) (hb : m.Blocks.length ≤ b) : GR m 0 (i + 1) f rs := ⟨h.n,fun j hj => by rw [h.s j hj,if_pos (by omega),if_neg (by omega)]⟩
theorem GR.no {m : D.MFunc} {b i : Nat} {f : Nat → Int → Bool} {rs : List (List Int)} (h : GR m b i f rs) (hi : i < (regsM m).length) (hf : f b (ix (regsM m) i) = false) : GR m (b + 1) i f rs := ⟨h.n,fun j hj => by
 rw [h.s j hj]
 by_cases h9 : j < b
 · rw [if_pos h9,if_pos (by omega)]
 · rw [if_neg h9]
   split
   · have e : j = b := by omega
     subst e
     rw [filter_next hi,hf]; simp
   · rfl⟩
theorem GR.len {m : D.MFunc} {b i : Nat} {f : Nat → Int → Bool} {rs : List (List Int)} (h : GR m b i f rs) : ∀ l ∈ rs,l.length < 1073741824 := mem_ix fun k hk => by
 rw [h.s k (by rw [← h.n]; exact hk)]
 have h1 := List.length_filter_le (f k) ((regsM m).take (if k < b then i + 1 else i))
 have h2 := regs_len (m := m)
 rw [List.length_take] at h1; omega
end Go.Proofs.YtehhjlkmbdhckaaGreat
