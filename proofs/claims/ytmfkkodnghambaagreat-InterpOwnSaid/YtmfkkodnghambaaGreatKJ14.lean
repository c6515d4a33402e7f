/- Lemmas that the claim is made of. Conditions: each lemma names its own. -/
import Derived.Test.YtmfkkodnghambaaGreatKJ13
import Derived.Test.YtmfkkodnghambaaGreatKJ4
import Derived.Test.YtmfkkodnghambaaGreatKJ8
import Derived.Laws.BytesArg
import Derived.Laws.Strings
import Derived.Test.YtmfkkodnghambaaGreatKJ12
set_option linter.unusedSectionVars false
set_option linter.unusedSimpArgs false
set_option linter.unusedVariables false
namespace Go.Proofs.YtmfkkodnghambaaGreat
open Go.JE
section
variable {P : Program} {D0 Γ : List Dt} {L M N L0 : List Res} {e : Env} {X : Cx} {n : Fs} {w0 : World} {Q : Exit → Act → World → Prop} {F G : PH} {H : Heap} {B Bw j i o : Nat} {v u v' w : Value} {qs : List EV} {cs : List D.Event} {l : List Int} {cc I : Int} {T : TypeId} {x y : Operand} {kd : IntKind}
theorem jvl (hT : P.underlying T = some (.slice 74)) (hk : Tk L (evr B v qs cs) M) (hx : ev e x = some v) : OH P Γ L e (.call { callee := .builtin .len,args := #[x],argTypes := #[T] }) (.int .i64 (cs.length : Nat)) := fun F H _ _ h => by
 have h1 := (hk.ok h).1
 rw [← h1.1.1]; exact OpOk.lenG hT h1.2.1.1 hx
theorem jvi (hT : P.underlying T = some (.slice 74)) (hE : Sz P 74 2) (hk : Tk L (evr B v qs cs) M) (hx : ev e x = some v) (hi : ev e y = some (.int kd I)) (hI : I = j) (h1 : j < cs.length) : OH P Γ L e (.indexAddr T x y) (.pointer (some ⟨vblk v,voff v + j * 2,none⟩)) := fun F H _ _ h => by
 have h2 := (hk.ok h).1
 exact OpOk.idxG (r := rEV) hT hE h2.2.1.1 hx hi hI (by rw [h2.1.1]; exact h1) (by decide)
theorem jvU (hk : Tk L (evr B v qs cs) M) (h1 : j < cs.length) (hT : One P T) (hx : ev e x = some (.pointer (some ⟨vblk v,o,none⟩))) (ho : o = voff v + j * 2 + 1) : OH P Γ L e (.load T x) (ix qs j).U := fun F H _ _ h => by
 have h2 := (hk.ok h).1
 obtain ⟨f,h3,h4⟩ := h2.2.1.1.cellP (off := 1) (i := j) (by rw [h2.1.1]; exact h1) (by decide)
 have h5 : f 1 = (ix qs j).U := h3.2.1
 rw [h5] at h4
 exact OpOk.load hT hx rfl (by rw [ho]; exact h4)
theorem ev_row (h : (evr B v qs cs).sat F H) (h1 : j < cs.length) : Gl (rI .i32) 21 F H B (ix qs j).U (ix cs j).Args := by
 have hl : j < qs.length := by rw [h.1.1]; exact h1
 obtain ⟨h3,h4⟩ := rws_ix (B := B) (r := rI .i32) (T := 21) (vs := qs.map EV.U) (ls := cs.map D.Event.Args) (i := j) (by simpa using hl) (by simpa using h1)
 have h5 := ((Ok.focus h3).1 h.2.2.2.1).1
 rw [h4,ix_map EV.U hl,ix_map D.Event.Args h1] at h5; exact h5.1
theorem jvN (hT : P.underlying T = some (.slice 21)) (hk : Tk L (evr B v qs cs) M) (h1 : j < cs.length) (hx : ev e x = some (ix qs j).U) : OH P Γ L e (.call { callee := .builtin .len,args := #[x],argTypes := #[T] }) (.int .i64 ((ix cs j).Args.length : Nat)) := fun F H _ _ h => OpOk.lenG hT (ev_row (hk.ok h).1 h1) hx
theorem jvx (hT : P.underlying T = some (.slice 21)) (hE : Sz P 21 1) (hk : Tk L (evr B v qs cs) M) (h1 : j < cs.length) (hx : ev e x = some (ix qs j).U) (hi : ev e y = some (.int kd I)) (hI : I = i) (h2 : i < (ix cs j).Args.length) : OH P Γ L e (.indexAddr T x y) (.pointer (some ⟨vblk (ix qs j).U,voff (ix qs j).U + i * 1,none⟩)) := fun F H _ _ h => OpOk.idxG hT hE (ev_row (hk.ok h).1 h1) hx hi hI h2 (by decide)
theorem jvs {ops : Array Oper} {rest : List Oper} {ty : TypeId} {pos : String} {af : Array Edge} (hk : Tk L (evr B v qs cs) M) (h1 : j < cs.length) (hi : i < (ix cs j).Args.length) (hT : Sz P T 1) (hx : ev e x = some (.pointer (some ⟨vblk (ix qs j).U,voff (ix qs j).U + i * 1,none⟩))) (hy : ev e y = some (.int .i32 cc)) (hc : IntKind.i32.wrap cc = cc)
   (k : LH P n w0 ops Q X Γ (evr B v qs (cs.set j { (ix cs j) with Args := (ix cs j).Args.set i cc }) :: M) e rest) : LH P n w0 ops Q X Γ L e (⟨none,.store T x y,ty,pos,af,none⟩ :: rest) := fun F H hp => by
 obtain ⟨hf,h2⟩ := hp_evo (hp.front hk)
 have hl : j < qs.length := by rw [hf.1]; exact h1
 have h3 := h2.row (k1 : Tk _ (rw' B (rI .i32) 21 (qs.map EV.U) (cs.map D.Event.Args)) _) (i := j) (by simpa using hl) (by simpa using h1)
 rw [ix_map EV.U hl,ix_map D.Event.Args h1] at h3
 refine LF.chg0 (OpCh.storeG (h3.at k0).1 rfl hT hx hy rfl hi ⟨rfl,hc⟩) ?_
 rintro _ H' ⟨g,hg,t,hb⟩
 have h4 := h3.set (R' := gl B (rI .i32) 21 (ix qs j).U ((ix cs j).Args.set i cc)) k0 ⟨Nat.le_of_eq t.1.symm,fun k _ h2 => t.2 k (fun e1 => h2 (e1 ▸ hg))⟩ ⟨hb,by rw [t.1]; exact hp1 h3 k0⟩ (fun k h => .inr h)
 have h5 := h4.unrow (by simpa using hl) (by simpa using h1)
 rw [← ix_map EV.U hl undef,set_same,show (List.map D.Event.Args cs).set j ((ix cs j).Args.set i cc) = List.map D.Event.Args (cs.set j { (ix cs j) with Args := (ix cs j).Args.set i cc }) by rw [List.map_set]] at h5
 exact k F H' (hp_evc ⟨by simp [hf.1],hf.2.trans (map_same D.Event.Callee (a := { (ix cs j) with Args := (ix cs j).Args.set i cc }) h1 rfl).symm⟩ (hp_tks h5 (kc k1 (kc k0 kn))))
theorem lensE_set {a : List Int} (h : lensE cs) (ha : a.length < 1073741824) : lensE (cs.set j { (ix cs j) with Args := a }) := ⟨by rw [List.length_set]; exact h.1,fun c hc => (List.mem_or_eq_of_mem_set hc).elim (h.2 c) (fun e => by subst e; exact ha)⟩
theorem evs_len {a : List Int} (h : j < cs.length) : (ix (cs.set j { (ix cs j) with Args := a }) j).Args.length = a.length := by rw [ix_set h,if_pos rfl]
theorem lensE_at (h : lensE cs) (h1 : j < cs.length) : (ix cs j).Args.length < 1073741824 := h.2 _ (ix_mem h1)
variable {f : FuncId} {args : Array Value} {ι : Type} {val : ι → Value} {lr : Nat → ι → List Res}
theorem Tr.tempE {D1 : List Dt} {m c : Value} {mem : List Int} {B2 : Nat} (h : Tr P f args D1 [] val (fun _ => []) lr) (hD : Sd (dv (rL (rI .i32)) m mem :: dv (rL rEvent) c cs :: D0) [] D1)
   (hfl : ∀ (i : ι) (B : Nat) (F G : PH) (H : Heap),F.le G → Ok G H (lr B i) → Ok F H (lr B i)) (hm : mem.length < 1073741824) (hl : lensE cs) :
   Tr P f args D0 [gl B (rI .i32) 21 m mem,evr B2 c qs cs] val (fun _ => []) (fun B' i => lr B' i ++ [gl B (rI .i32) 21 m mem,evr B2 c qs cs]) := fun F H hin hd ho => by
 obtain ⟨⟨a1,a2⟩,b,ev,b2,_⟩ := ho
 obtain ⟨G,g1,g2,g3,g4,g5⟩ := a1.freeze (N := 1073741824) hin hm
 have ev' : (evr B2 c qs cs).sat G H := Res.st _ g1 (Nat.le_refl _) (fun k hk => (g4 k (fun e => b k e (.inl hk))).trans (Res.no _ ev hk)) (fun _ _ => rfl) ev
 obtain ⟨K,k1,k2,k3,k4,k5⟩ := ev_freeze g2 ev' hl
 refine (h K H k2 (hD K H k2 ⟨Rp.rv.up g5 k1,k5,(hd.up g1).up k1⟩ trivial) trivial).mono ?_
 rintro _ H' ⟨i,F',rfl,h2⟩
 refine ⟨i,F,rfl,fun B' hB => ?_⟩
 have h3 := h2 B' hB
 obtain ⟨x,y,z⟩ := h3.less hin (g1.trans k1)
 have hw : ∀ k,k < H.size → H'[k]? = H[k]? := fun k hk => z.2 k hk id
 refine ⟨x,y,⟨z.1,fun k hk _ => hw k hk⟩,trivial,Ok.app (hfl i B' F F' H' ((g1.trans k1).trans h3.hx.1) h3.ok) ⟨⟨a1.of fun k hk => hw k (a1.lt k hk),Nat.le_trans a2 z.1⟩,b,Res.st _ (PH.le.refl F) z.1 (fun k hk => Res.no _ ev hk) (fun k hk => hw k (Res.lt _ ev hk)) ev,fun _ _ => id,trivial⟩ (fun k hk hk2 => ?_),fun k hk => (JE.Own.app.1 hk).elim (fun h9 => .inl ((h3.ge k h9).resolve_right id)) .inr⟩
 have h5 := (h3.ge k hk).resolve_right id
 rcases hk2 with hk2 | hk2 | hk2
 · have h6 : k < H.size := a1.lt k hk2
   have h7 : H.size ≤ k := h5
   omega
 · have h6 : k < H.size := Res.lt _ ev hk2
   have h7 : H.size ≤ k := h5
   omega
 · exact hk2
end
def cutE (l : List D.Event) : List D.Event := l.map (fun e => ⟨e.Callee,e.Args.take 6⟩)
theorem cutE_nx {l : List D.Event} {k : Nat} (h : k < l.length) : cutE (l.take (k + 1)) = cutE (l.take k) ++ [⟨(ix l k).Callee,(ix l k).Args.take 6⟩] := by unfold cutE; rw [take_ix h,List.map_append]; rfl
theorem cutE_len {l : List D.Event} {k : Nat} : (cutE (l.take k)).length ≤ k := by unfold cutE; rw [List.length_map,List.length_take]; omega
theorem cut10 {l : List D.Event} {k : Nat} (h : k ≤ 10 ∧ k ≤ l.length) (h2 : ¬ ((k : Int) < (l.length : Int) ∧ (k : Int) < 10)) : cutE (l.take 10) = cutE (l.take k) := by
 rcases Nat.lt_or_ge k 10 with h3 | h3
 · rw [List.take_of_length_le (i := k) (by omega),List.take_of_length_le (i := 10) (by omega)]
 · rw [show k = 10 by omega]
theorem cutE_lens (l : List D.Event) : lensE (cutE (l.take 10)) := ⟨by have := cutE_len (l := l) (k := 10); omega,fun c hc => by
 unfold cutE at hc
 obtain ⟨d,_,rfl⟩ := List.mem_map.1 hc
 show (d.Args.take 6).length < 1073741824; rw [List.length_take]; omega⟩
set_option maxRecDepth 8000 in
theorem outcome_ct {a0a a0b : Value} {a : D.Outcome} : Tr Tryz.prog 27 #[vOutcome a (a0a,a0b)] [da rOutcome (vOutcome a (a0a,a0b)) a] [] (fun c : Value × Value × List EV => .agg #[.int .i64 a.End,.int .i32 a.Val,c.1,c.2.1,.int .i64 a.Steps]) (fun _ => []) (fun B c => [gl B (rI .i32) 21 c.1 (a.Mem.take 20),evr B c.2.1 c.2.2 (cutE (a.Calls.take 10))]) := by
 refine jenter (args := [vOutcome a (a0a,a0b)]) Tryz.func27 rfl rfl rfl fun w0 X => ?_
 refine jq (jr (jbox Z Z fun g1 => jalc J37 Z fun g2 => jn (jx (jq (jany false (.a 0 (.a 1 (.a 2 (.a 3 (.a 4 (.a 5 (.a 7 (.a 8 (.a 9 (.a 10 (.a 11 (.a 12 (.a 13 (.w 6 16 (.w 14 16 (.a 15 (.o 16 (.o 17 .e))) (.o 14 (.a 15 (.o 17 .e)))) (.o 6 (.o 14 (.a 15 (.o 17 .e)))))))))))))))))) Mixed (by kernel_rfl) (kc k1 kn) fun F1 => jy Z (jf F37_0 Z) (jy Z (jl k0 O3 Z Z) (jy Z (jf F37_1 Z) (jy Z (jl k0 O21 Z Z) ?_))))))))
 refine jy Z (jf F37_4 Z) (jy Z (jl k0 O3 Z Z) (jy Z (jf F37_2 Z) (jy Z (jl k0 O29 Z Z) (jy Z (jf F37_2 Z) (jy Z (jl k0 O29 Z Z) (adq (rOutcome.c_Mem d0) fun q2 w2 => jy Z (jln U29 (rOutcome.c_Mem d0) Z) (jy Z (jmin Z Z) (jy Z (jshi (hi := (Int.toNat (min (↑(List.length a.Mem)) 20))) U29 Z21 (rOutcome.c_Mem d0) Z Z (by omega) (by omega)) ?_))))))))
 refine jyw Z Z ?_ ?_
 refine jlit (r := (rI .i32)) (l := []) U29 I21 (by decide) Z Z Z ln fun g11 => jyn d0 (kc k2 kn) ?_
 refine jyw Z Z ?_ ?_
 refine jdq (dhi (rOutcome.c_Mem d2) (Int.toNat (min (↑(List.length a.Mem)) 20)) (by omega) (by omega)) fun q5 w5 => japlz U29 I21 (by decide) Z k0 Z Z (dhi (rOutcome.c_Mem d2) (Int.toNat (min (↑(List.length a.Mem)) 20)) (by omega) (by omega)) (by (try simp) <;> omega) fun v19 w6 => jyn d0 (kc k2 kn) (jy Z (jbu (v := .agg #[.int .i64 a.End,.int .i32 a.Val,v19,.slice none 0 0,.int .i64 a.Steps]) Z (fun _ => by obtain ⟨_,_,_,rfl⟩ := w6; kernel_rfl)) (jyo Z (jalc J37 Z fun g3 => jyn d0 (kc k3 kn) (jyo Z (jsta k0 Z37 Z Z Z ⟨Z,Z,w6.one,Z,Z,trivial⟩ (saf Z) (jyn d0 (kc k3 kn) (jyd (jx ?_))))))))
 refine jq (jq (jr (ja Z (jn (jx (jb (cevn ?_)))))))
 refine jlp (u4 fun (k : Nat) (cl : List D.Event) (vc : Value) (qs : List EV) => ⟨(k ≤ 10 ∧ k ≤ a.Calls.length) ∧ cl = cutE (a.Calls.take k),[da rOutcome (vOutcome a (a0a,a0b)) a],[evr X.n vc qs cl,bx g3 37 [.int .i64 a.End,.int .i32 a.Val,v19,vc,.int .i64 a.Steps],gl X.n (rI .i32) 21 v19 (List.take (Int.toNat (min (↑(List.length a.Mem)) 20)) a.Mem),bx g2 37 [.int .i64 0,.int .i32 0,.slice none 0 0,.slice none 0 0,.int .i64 0],bx g1 37 [.int .i64 a.End,.int .i32 a.Val,a0a,a0b,.int .i64 a.Steps]],[(1,.pointer (some ⟨g1,0,none⟩)),(2,.pointer (some ⟨g2,0,none⟩)),(3,.pointer (some ⟨g3,0,none⟩)),(4,.int .i64 (↑k))],10 - k⟩) (0,[],.slice none 0 0,[]) ⟨by dsimp only; omega,rfl⟩ (dc d4 dn) (kd (kd (kc k0 kn))) ⟨Z,Z,Z,eqI (by omega),trivial⟩ ?_
 rintro ⟨k,cl,vc,qs⟩; dsimp only [u4]; rintro ⟨hk,hcl2⟩
 refine cgoE k0 fun w9 => ?_
 have hcl3 : cl.length ≤ 10 := by rw [hcl2]; have := cutE_len (l := a.Calls) (k := k); omega
 refine jq (jq (jr (jm Z (js (jf F37_3 Z) (js (jl k4 O35 Z Z) (jdq (rOutcome.c_Calls d0) fun q10 w10 => js (jln U35 (rOutcome.c_Calls d0) Z) (js (jlss Z Z) (jm Z (jg Z Z (.t _) (fun hg => jmv Z) (jg Z Z (.t _) (fun hg => jlss (evg Z hg) Z) ?_))))))))))
 refine js (jand Z Z) (jn (jx ?_))
 refine jif Z (fun hc1 => ?_) (fun hc1 => ?_)
 refine jsk (jx (jq (jb (jany true (.a 0 (.a 1 (.a 2 (.a 3 (.a 4 (.a 5 (.a 6 (.a 7 (.a 9 (.a 10 (.a 11 (.a 12 (.a 13 (.a 14 (.a 15 (.a 16 (.a 17 (.a 18 (.a 19 (.a 20 (.a 21 (.a 22 (.a 23 (.o 8 (.o 24 (.a 25 (.o 26 (.o 27 (.a 28 (.o 29 .e)))))))))))))))))))))))))))))) Mixed (by kernel_rfl) (kc k1 (kc k3 kn)) fun F11 => jy Z (jf F37_3 Z) (jy Z (jl k0 O35 Z Z) (jy Z (jf F37_3 Z) (jy Z (jl k1 O35 Z Z) (jy Z (jmv Z) (jy Z (jix U35 Z74 (rOutcome.c_Calls d0) Z Z Z (by omega)) (jy Z (jf F74_0 Z) ?_))))))))))
 refine jy Z (jlI (rEvent.A_Callee (dix (rOutcome.c_Calls d0) k (by omega))) O21 Z) (awr (wad (rEvent.A_Callee (dix (rOutcome.c_Calls d0) k (by omega)))) fun w12 => jy Z (jf F37_3 Z) (jy Z (jl k1 O35 Z Z) (jy Z (jmv Z) (jy Z (jix U35 Z74 (rOutcome.c_Calls d0) Z Z Z (by omega)) (jy Z (jf F74_1 Z) (jye (q := fun v => dv (rL (rI .i32)) v ((ix a.Calls k).Args)) Z (xlV (rEvent.A_Args (dix (rOutcome.c_Calls d0) k (by omega))) O29 Z Z) fun v46 => jy Z (jf F37_3 Z) (jy Z (jl k1 O35 Z Z) (jy Z (jmv Z) (jy Z (jix U35 Z74 (rOutcome.c_Calls d1) Z Z Z (by omega)) ?_)))))))))
 refine jy Z (jf F74_1 Z) (jye (q := fun v => dv (rL (rI .i32)) v ((ix a.Calls k).Args)) Z (xlV (rEvent.A_Args (dix (rOutcome.c_Calls d1) k (by omega))) O29 Z Z) fun v52 => adq d0 fun q15 w15 => jy Z (jln U29 d0 Z) (jy Z (jmin Z Z) (adq d1 fun q16 w16 => jy Z (jshi (hi := (Int.toNat (min (↑(List.length ((ix a.Calls k).Args))) 6))) U29 Z21 d1 Z Z (by omega) (by omega)) (jyo Z (jlit (r := (rI .i32)) (l := []) U29 I21 (by decide) Z Z Z ln fun g40 => jyn d0 (kc k2 (kc k4 kn)) (jyo Z (jdq (dhi d3 (Int.toNat (min (↑(List.length ((ix a.Calls k).Args))) 6)) (by omega) (by omega)) fun q19 w19 => ?_)))))))
 refine japlz U29 I21 (by decide) Z k0 Z Z (dhi d3 (Int.toNat (min (↑(List.length ((ix a.Calls k).Args))) 6)) (by omega) (by omega)) (by (try simp) <;> omega) fun v56 w20 => jyn d0 (kc k2 (kc k4 kn)) (jy Z (jbu (v := .agg #[.int .i32 ((ix a.Calls k).Callee),v56]) Z (fun _ => by obtain ⟨_,_,_,rfl⟩ := w20; kernel_rfl)) (jyo Z (jevz (l := List.take (Int.toNat (min (↑(List.length ((ix a.Calls k).Args))) 6)) ((ix a.Calls k).Args)) U35 I74 Z Z k0 w20.one (wp w12) fun g58 => jyn d0 (kc k2 (kc k4 kn)) (jyo Z (jeva U35 I74 (by decide) Z k1 k0 (Nat.le_refl _) Z Z (by (try simp) <;> omega) fun v59 w23 => jyn d0 (kc k1 (kc k3 kn)) (jy Z (jf F37_3 Z) (jyo Z (jst k1 Z35 Z Z w23.one s3 ?_))))))))
 refine jyz d0 (jyd (jbn (jx (jr (jm Z (js (jadd Z Z (by omega)) (ja Z (jn ?_))))))))
 exact jag (k + 1,cl ++ [⟨(ix a.Calls k).Callee,List.take (Int.toNat (min (((List.length ((ix a.Calls k).Args) : Nat) : Int)) 6)) ((ix a.Calls k).Args)⟩],v59,qs ++ [⟨(ix a.Calls k).Callee,v56⟩]) ⟨by dsimp only; omega,by dsimp only; rw [cutE_nx (l := a.Calls) (k := k) (by omega),hcl2,take_min _ 6 6 rfl]⟩ (dc d7 dn) (kc k1 (kd (kd kn))) ⟨Z,Z,Z,eqI (by omega),trivial⟩
 refine jex (jtx (jtx (jbh (jx (jq (jr (js (jla k1 A37 Z37 Z Z Z) (jsta k3 Z37 Z Z Z ⟨Z,Z,w6.one,w9.one,Z,trivial⟩ (saf Z) (jn (jx (jrt ?_)))))))))))
 exact jrc Z Z k0 A37 Z37 (v19,vc,qs) Z dn (fun _ hB => klc (take_min a.Mem 20 20 rfl) hB k3 (klEc (by rw [hcl2]; exact cut10 hk (by omega)) hB k1 kn))
 refine jalc J37 Z fun g3 => jyn d0 (kc k3 kn) (jyo Z (jdq (dhi (rOutcome.c_Mem d3) (Int.toNat (min (↑(List.length a.Mem)) 20)) (by omega) (by omega)) fun q6 w6 => japlz U29 I21 (by decide) Z k1 Z Z (dhi (rOutcome.c_Mem d3) (Int.toNat (min (↑(List.length a.Mem)) 20)) (by omega) (by omega)) (by (try simp) <;> omega) fun v19 w7 => jyn d0 (kc k3 kn) (jy Z (jbu (v := .agg #[.int .i64 a.End,.int .i32 a.Val,v19,.slice none 0 0,.int .i64 a.Steps]) Z (fun _ => by obtain ⟨_,_,_,rfl⟩ := w7; kernel_rfl)) (jyo Z (jsta k1 Z37 Z Z Z ⟨Z,Z,w7.one,Z,Z,trivial⟩ (saf Z) (jyn d0 (kc k3 kn) (jyd (jx ?_))))))))
 refine jq (jq (jr (ja Z (jn (jx (jb (cevn ?_)))))))
 refine jlp (u4 fun (k : Nat) (cl : List D.Event) (vc : Value) (qs : List EV) => ⟨(k ≤ 10 ∧ k ≤ a.Calls.length) ∧ cl = cutE (a.Calls.take k),[da rOutcome (vOutcome a (a0a,a0b)) a],[evr X.n vc qs cl,bx g3 37 [.int .i64 a.End,.int .i32 a.Val,v19,vc,.int .i64 a.Steps],gl X.n (rI .i32) 21 v19 (List.take (Int.toNat (min (↑(List.length a.Mem)) 20)) a.Mem),bx g2 37 [.int .i64 0,.int .i32 0,.slice none 0 0,.slice none 0 0,.int .i64 0],bx g1 37 [.int .i64 a.End,.int .i32 a.Val,a0a,a0b,.int .i64 a.Steps]],[(1,.pointer (some ⟨g1,0,none⟩)),(2,.pointer (some ⟨g2,0,none⟩)),(3,.pointer (some ⟨g3,0,none⟩)),(4,.int .i64 (↑k))],10 - k⟩) (0,[],.slice none 0 0,[]) ⟨by dsimp only; omega,rfl⟩ (dc d4 dn) (kd (kd (kc k0 kn))) ⟨Z,Z,Z,eqI (by omega),trivial⟩ ?_
 rintro ⟨k,cl,vc,qs⟩; dsimp only [u4]; rintro ⟨hk,hcl2⟩
 refine cgoE k0 fun w9 => ?_
 have hcl3 : cl.length ≤ 10 := by rw [hcl2]; have := cutE_len (l := a.Calls) (k := k); omega
 refine jq (jq (jr (jm Z (js (jf F37_3 Z) (js (jl k4 O35 Z Z) (jdq (rOutcome.c_Calls d0) fun q10 w10 => js (jln U35 (rOutcome.c_Calls d0) Z) (js (jlss Z Z) (jm Z (jg Z Z (.t _) (fun hg => jmv Z) (jg Z Z (.t _) (fun hg => jlss (evg Z hg) Z) ?_))))))))))
 refine js (jand Z Z) (jn (jx ?_))
 refine jif Z (fun hc1 => ?_) (fun hc1 => ?_)
 refine jsk (jx (jq (jb (jany true (.a 0 (.a 1 (.a 2 (.a 3 (.a 4 (.a 5 (.a 6 (.a 7 (.a 9 (.a 10 (.a 11 (.a 12 (.a 13 (.a 14 (.a 15 (.a 16 (.a 17 (.a 18 (.a 19 (.a 20 (.a 21 (.a 22 (.a 23 (.o 8 (.o 24 (.a 25 (.o 26 (.o 27 (.a 28 (.o 29 .e)))))))))))))))))))))))))))))) Mixed (by kernel_rfl) (kc k1 (kc k3 kn)) fun F11 => jy Z (jf F37_3 Z) (jy Z (jl k0 O35 Z Z) (jy Z (jf F37_3 Z) (jy Z (jl k1 O35 Z Z) (jy Z (jmv Z) (jy Z (jix U35 Z74 (rOutcome.c_Calls d0) Z Z Z (by omega)) (jy Z (jf F74_0 Z) ?_))))))))))
 refine jy Z (jlI (rEvent.A_Callee (dix (rOutcome.c_Calls d0) k (by omega))) O21 Z) (awr (wad (rEvent.A_Callee (dix (rOutcome.c_Calls d0) k (by omega)))) fun w12 => jy Z (jf F37_3 Z) (jy Z (jl k1 O35 Z Z) (jy Z (jmv Z) (jy Z (jix U35 Z74 (rOutcome.c_Calls d0) Z Z Z (by omega)) (jy Z (jf F74_1 Z) (jye (q := fun v => dv (rL (rI .i32)) v ((ix a.Calls k).Args)) Z (xlV (rEvent.A_Args (dix (rOutcome.c_Calls d0) k (by omega))) O29 Z Z) fun v46 => jy Z (jf F37_3 Z) (jy Z (jl k1 O35 Z Z) (jy Z (jmv Z) (jy Z (jix U35 Z74 (rOutcome.c_Calls d1) Z Z Z (by omega)) ?_)))))))))
 refine jy Z (jf F74_1 Z) (jye (q := fun v => dv (rL (rI .i32)) v ((ix a.Calls k).Args)) Z (xlV (rEvent.A_Args (dix (rOutcome.c_Calls d1) k (by omega))) O29 Z Z) fun v52 => adq d0 fun q15 w15 => jy Z (jln U29 d0 Z) (jy Z (jmin Z Z) (adq d1 fun q16 w16 => jy Z (jshi (hi := (Int.toNat (min (↑(List.length ((ix a.Calls k).Args))) 6))) U29 Z21 d1 Z Z (by omega) (by omega)) (jyo Z (jlit (r := (rI .i32)) (l := []) U29 I21 (by decide) Z Z Z ln fun g40 => jyn d0 (kc k2 (kc k4 kn)) (jyo Z (jdq (dhi d3 (Int.toNat (min (↑(List.length ((ix a.Calls k).Args))) 6)) (by omega) (by omega)) fun q19 w19 => ?_)))))))
 refine japlz U29 I21 (by decide) Z k0 Z Z (dhi d3 (Int.toNat (min (↑(List.length ((ix a.Calls k).Args))) 6)) (by omega) (by omega)) (by (try simp) <;> omega) fun v56 w20 => jyn d0 (kc k2 (kc k4 kn)) (jy Z (jbu (v := .agg #[.int .i32 ((ix a.Calls k).Callee),v56]) Z (fun _ => by obtain ⟨_,_,_,rfl⟩ := w20; kernel_rfl)) (jyo Z (jevz (l := List.take (Int.toNat (min (↑(List.length ((ix a.Calls k).Args))) 6)) ((ix a.Calls k).Args)) U35 I74 Z Z k0 w20.one (wp w12) fun g58 => jyn d0 (kc k2 (kc k4 kn)) (jyo Z (jeva U35 I74 (by decide) Z k1 k0 (Nat.le_refl _) Z Z (by (try simp) <;> omega) fun v59 w23 => jyn d0 (kc k1 (kc k3 kn)) (jy Z (jf F37_3 Z) (jyo Z (jst k1 Z35 Z Z w23.one s3 ?_))))))))
 refine jyz d0 (jyd (jbn (jx (jr (jm Z (js (jadd Z Z (by omega)) (ja Z (jn ?_))))))))
 exact jag (k + 1,cl ++ [⟨(ix a.Calls k).Callee,List.take (Int.toNat (min (((List.length ((ix a.Calls k).Args) : Nat) : Int)) 6)) ((ix a.Calls k).Args)⟩],v59,qs ++ [⟨(ix a.Calls k).Callee,v56⟩]) ⟨by dsimp only; omega,by dsimp only; rw [cutE_nx (l := a.Calls) (k := k) (by omega),hcl2,take_min _ 6 6 rfl]⟩ (dc d7 dn) (kc k1 (kd (kd kn))) ⟨Z,Z,Z,eqI (by omega),trivial⟩
 refine jex (jtx (jtx (jbh (jx (jq (jr (js (jla k1 A37 Z37 Z Z Z) (jsta k3 Z37 Z Z Z ⟨Z,Z,w7.one,w9.one,Z,trivial⟩ (saf Z) (jn (jx (jrt ?_)))))))))))
 exact jrc Z Z k0 A37 Z37 (v19,vc,qs) Z dn (fun _ hB => klc (take_min a.Mem 20 20 rfl) hB k3 (klEc (by rw [hcl2]; exact cut10 hk (by omega)) hB k1 kn))
 refine jalc J37 Z fun g3 => jyn d0 (kc k2 kn) (jyo Z (jlit (r := (rI .i32)) (l := []) U29 I21 (by decide) Z Z Z ln fun g11 => jyn d0 (kc k3 kn) (jyo Z (jdq (dhi (rOutcome.c_Mem d3) (Int.toNat (min (↑(List.length a.Mem)) 20)) (by omega) (by omega)) fun q6 w6 => japlz U29 I21 (by decide) Z k0 Z Z (dhi (rOutcome.c_Mem d3) (Int.toNat (min (↑(List.length a.Mem)) 20)) (by omega) (by omega)) (by (try simp) <;> omega) fun v19 w7 => jyn d0 (kc k3 kn) (jy Z (jbu (v := .agg #[.int .i64 a.End,.int .i32 a.Val,v19,.slice none 0 0,.int .i64 a.Steps]) Z (fun _ => by obtain ⟨_,_,_,rfl⟩ := w7; kernel_rfl)) (jyo Z (jsta k1 Z37 Z Z Z ⟨Z,Z,w7.one,Z,Z,trivial⟩ (saf Z) ?_)))))))
 refine jyn d0 (kc k3 kn) (jyd (jx (jq (jq (jr (ja Z (jn (jx (jb (cevn ?_))))))))))
 refine jlp (u4 fun (k : Nat) (cl : List D.Event) (vc : Value) (qs : List EV) => ⟨(k ≤ 10 ∧ k ≤ a.Calls.length) ∧ cl = cutE (a.Calls.take k),[da rOutcome (vOutcome a (a0a,a0b)) a],[evr X.n vc qs cl,bx g3 37 [.int .i64 a.End,.int .i32 a.Val,v19,vc,.int .i64 a.Steps],gl X.n (rI .i32) 21 v19 (List.take (Int.toNat (min (↑(List.length a.Mem)) 20)) a.Mem),bx g2 37 [.int .i64 0,.int .i32 0,.slice none 0 0,.slice none 0 0,.int .i64 0],bx g1 37 [.int .i64 a.End,.int .i32 a.Val,a0a,a0b,.int .i64 a.Steps]],[(1,.pointer (some ⟨g1,0,none⟩)),(2,.pointer (some ⟨g2,0,none⟩)),(3,.pointer (some ⟨g3,0,none⟩)),(4,.int .i64 (↑k))],10 - k⟩) (0,[],.slice none 0 0,[]) ⟨by dsimp only; omega,rfl⟩ (dc d4 dn) (kd (kd (kc k0 kn))) ⟨Z,Z,Z,eqI (by omega),trivial⟩ ?_
 rintro ⟨k,cl,vc,qs⟩; dsimp only [u4]; rintro ⟨hk,hcl2⟩
 refine cgoE k0 fun w9 => ?_
 have hcl3 : cl.length ≤ 10 := by rw [hcl2]; have := cutE_len (l := a.Calls) (k := k); omega
 refine jq (jq (jr (jm Z (js (jf F37_3 Z) (js (jl k4 O35 Z Z) (jdq (rOutcome.c_Calls d0) fun q10 w10 => js (jln U35 (rOutcome.c_Calls d0) Z) (js (jlss Z Z) (jm Z (jg Z Z (.t _) (fun hg => jmv Z) (jg Z Z (.t _) (fun hg => jlss (evg Z hg) Z) ?_))))))))))
 refine js (jand Z Z) (jn (jx ?_))
 refine jif Z (fun hc1 => ?_) (fun hc1 => ?_)
 refine jsk (jx (jq (jb (jany true (.a 0 (.a 1 (.a 2 (.a 3 (.a 4 (.a 5 (.a 6 (.a 7 (.a 9 (.a 10 (.a 11 (.a 12 (.a 13 (.a 14 (.a 15 (.a 16 (.a 17 (.a 18 (.a 19 (.a 20 (.a 21 (.a 22 (.a 23 (.o 8 (.o 24 (.a 25 (.o 26 (.o 27 (.a 28 (.o 29 .e)))))))))))))))))))))))))))))) Mixed (by kernel_rfl) (kc k1 (kc k3 kn)) fun F11 => jy Z (jf F37_3 Z) (jy Z (jl k0 O35 Z Z) (jy Z (jf F37_3 Z) (jy Z (jl k1 O35 Z Z) (jy Z (jmv Z) (jy Z (jix U35 Z74 (rOutcome.c_Calls d0) Z Z Z (by omega)) (jy Z (jf F74_0 Z) ?_))))))))))
 refine jy Z (jlI (rEvent.A_Callee (dix (rOutcome.c_Calls d0) k (by omega))) O21 Z) (awr (wad (rEvent.A_Callee (dix (rOutcome.c_Calls d0) k (by omega)))) fun w12 => jy Z (jf F37_3 Z) (jy Z (jl k1 O35 Z Z) (jy Z (jmv Z) (jy Z (jix U35 Z74 (rOutcome.c_Calls d0) Z Z Z (by omega)) (jy Z (jf F74_1 Z) (jye (q := fun v => dv (rL (rI .i32)) v ((ix a.Calls k).Args)) Z (xlV (rEvent.A_Args (dix (rOutcome.c_Calls d0) k (by omega))) O29 Z Z) fun v46 => jy Z (jf F37_3 Z) (jy Z (jl k1 O35 Z Z) (jy Z (jmv Z) (jy Z (jix U35 Z74 (rOutcome.c_Calls d1) Z Z Z (by omega)) ?_)))))))))
 refine jy Z (jf F74_1 Z) (jye (q := fun v => dv (rL (rI .i32)) v ((ix a.Calls k).Args)) Z (xlV (rEvent.A_Args (dix (rOutcome.c_Calls d1) k (by omega))) O29 Z Z) fun v52 => adq d0 fun q15 w15 => jy Z (jln U29 d0 Z) (jy Z (jmin Z Z) (adq d1 fun q16 w16 => jy Z (jshi (hi := (Int.toNat (min (↑(List.length ((ix a.Calls k).Args))) 6))) U29 Z21 d1 Z Z (by omega) (by omega)) (jyo Z (jlit (r := (rI .i32)) (l := []) U29 I21 (by decide) Z Z Z ln fun g40 => jyn d0 (kc k2 (kc k4 kn)) (jyo Z (jdq (dhi d3 (Int.toNat (min (↑(List.length ((ix a.Calls k).Args))) 6)) (by omega) (by omega)) fun q19 w19 => ?_)))))))
 refine japlz U29 I21 (by decide) Z k0 Z Z (dhi d3 (Int.toNat (min (↑(List.length ((ix a.Calls k).Args))) 6)) (by omega) (by omega)) (by (try simp) <;> omega) fun v56 w20 => jyn d0 (kc k2 (kc k4 kn)) (jy Z (jbu (v := .agg #[.int .i32 ((ix a.Calls k).Callee),v56]) Z (fun _ => by obtain ⟨_,_,_,rfl⟩ := w20; kernel_rfl)) (jyo Z (jevz (l := List.take (Int.toNat (min (↑(List.length ((ix a.Calls k).Args))) 6)) ((ix a.Calls k).Args)) U35 I74 Z Z k0 w20.one (wp w12) fun g58 => jyn d0 (kc k2 (kc k4 kn)) (jyo Z (jeva U35 I74 (by decide) Z k1 k0 (Nat.le_refl _) Z Z (by (try simp) <;> omega) fun v59 w23 => jyn d0 (kc k1 (kc k3 kn)) (jy Z (jf F37_3 Z) (jyo Z (jst k1 Z35 Z Z w23.one s3 ?_))))))))
 refine jyz d0 (jyd (jbn (jx (jr (jm Z (js (jadd Z Z (by omega)) (ja Z (jn ?_))))))))
 exact jag (k + 1,cl ++ [⟨(ix a.Calls k).Callee,List.take (Int.toNat (min (((List.length ((ix a.Calls k).Args) : Nat) : Int)) 6)) ((ix a.Calls k).Args)⟩],v59,qs ++ [⟨(ix a.Calls k).Callee,v56⟩]) ⟨by dsimp only; omega,by dsimp only; rw [cutE_nx (l := a.Calls) (k := k) (by omega),hcl2,take_min _ 6 6 rfl]⟩ (dc d7 dn) (kc k1 (kd (kd kn))) ⟨Z,Z,Z,eqI (by omega),trivial⟩
 refine jex (jtx (jtx (jbh (jx (jq (jr (js (jla k1 A37 Z37 Z Z Z) (jsta k3 Z37 Z Z Z ⟨Z,Z,w7.one,w9.one,Z,trivial⟩ (saf Z) (jn (jx (jrt ?_)))))))))))
 exact jrc Z Z k0 A37 Z37 (v19,vc,qs) Z dn (fun _ hB => klc (take_min a.Mem 20 20 rfl) hB k3 (klEc (by rw [hcl2]; exact cut10 hk (by omega)) hB k1 kn))
def one3 (p : Int) (l : List D.Ins) (t : D.Term) : D.Func := ⟨p,[⟨[],l,t⟩]⟩
def ret3 (v : Int) : D.Term := ⟨4,[v],[],0⟩
theorem pos_makes {l : List D.Ins} {v : Int} {k : Nat} (h : v ∈ (l.take k).flatMap makes3) : ∃ i,i < k ∧ i < l.length ∧ v ∈ makes3 (ix l i) := by
 obtain ⟨x,h1,h2⟩ := List.mem_flatMap.1 h
 obtain ⟨i,hi,e⟩ := List.getElem_of_mem h1
 rw [List.length_take] at hi
 rw [List.getElem_take] at e
 exact ⟨i,by omega,by omega,by rw [ix_eq (show i < l.length by omega),e]; exact h2⟩
theorem good_one {p : Int} {l : List D.Ins} {t : D.Term} (hp : 0 ≤ p ∧ p ≤ 4) (hl : l.length ≤ 4000) (hn : (l.flatMap makes3).Nodup) (hr : ∀ r ∈ l.flatMap makes3,p ≤ r ∧ r ≤ 8191)
   (ho : ∀ i ∈ l,(1 ≤ i.Op ∧ i.Op ≤ 18) ∧ (operM i.Op).1 ≤ (i.Args.length : Int) ∧ (i.Args.length : Int) ≤ (operM i.Op).2) (ht : (t.Kind = 4 ∧ t.Args.length ≤ 1 ∨ t.Kind = 5 ∧ t.Args.length = 0) ∧ t.To = [])
   (hi : ∀ k,k < l.length → ∀ v ∈ (ix l k).Args,(0 ≤ v ∧ v < p) ∨ v ∈ (l.take k).flatMap makes3) (hu : ∀ v ∈ t.Args,(0 ≤ v ∧ v < p) ∨ v ∈ l.flatMap makes3) : GoodF (one3 p l t) := by
 have e0 : ∀ b,b < (one3 p l t).Blocks.length → ix (one3 p l t).Blocks b = ⟨[],l,t⟩ := fun b hb => by
   have hb : b < 1 := hb
   have : b = 0 := by omega
   subst this; rfl
 have em : mkB (⟨[],l,t⟩ : D.Block) = l.flatMap makes3 := by unfold mkB; simp
 have eo : ∀ j,ix (one3 p l t).Blocks j = if j = 0 then ⟨[],l,t⟩ else default := fun j => by
   cases j with
   | zero => rfl
   | succ j => rw [if_neg (by omega),ix_out (by show 1 ≤ j + 1; omega)]
 have e9 : mkB (default : D.Block) = [] := rfl
 refine ⟨hp,⟨by show 0 < 1; omega,by show (1 : Nat) ≤ 512; omega⟩,?_,⟨fun j => ?_,fun i j hij r hr hr2 => ?_⟩,fun b hb r hr2 => ?_,fun b hb i hi2 => ?_,fun b hb => ?_,fun b hb t' ht' => ?_,fun b hb => ?_,fun b hb p' hp' => ?_,fun b hb k hk v hv => ?_,fun b hb v hv => ?_,fun b hb p' hp' => ?_⟩
 · show 1 + cntF3 [⟨[],l,t⟩] ≤ 4096
   unfold cntF3; simp; omega
 · rw [eo]; split
   · rw [em]; exact hn
   · rw [e9]; exact List.nodup_nil
 · rw [eo] at hr hr2
   split at hr
   · rw [if_neg (by omega),e9] at hr2; cases hr2
   · rw [e9] at hr; cases hr
 · rw [e0 b hb,em] at hr2; exact hr r hr2
 · rw [e0 b hb] at hi2; exact ho i hi2
 · rw [e0 b hb]
   rcases ht with ⟨⟨h1,h2⟩ | ⟨h1,h2⟩,h3⟩
   · exact ⟨(0,1,0,0),by show shM t.Kind = _; rw [h1]; rfl,⟨by dsimp only; omega,by dsimp only; omega⟩,by rw [h3]; exact ⟨Int.le_refl _,Int.le_refl _⟩⟩
   · exact ⟨(0,0,0,0),by show shM t.Kind = _; rw [h1]; rfl,⟨by dsimp only; omega,by dsimp only; omega⟩,by rw [h3]; exact ⟨Int.le_refl _,Int.le_refl _⟩⟩
 · rw [e0 b hb] at ht'; rw [show (⟨[],l,t⟩ : D.Block).Term.To = [] from ht.2] at ht'; cases ht'
 · have hb : b < 1 := hb
   exact ⟨1,by rw [show b = 0 by omega]; exact .zero (by omega)⟩
 · rw [e0 b hb] at hp'; cases hp'
 · have hb0 : b = 0 := by have hb : b < 1 := hb; omega
   rw [e0 b hb] at hk hv
   rcases hi k hk v hv with h1 | h1
   · exact .inl h1
   · obtain ⟨i,h2,h3,h4⟩ := pos_makes h1
     exact .inr ⟨0,i,⟨by show 0 < 1; omega,.inr ⟨i,h3,h4,rfl⟩⟩,.inl ⟨hb0.symm,.inl (by omega)⟩⟩
 · have hb0 : b = 0 := by have hb : b < 1 := hb; omega
   rw [e0 b hb] at hv ⊢
   rcases hu v hv with h1 | h1
   · exact .inl h1
   · obtain ⟨i,h2,h3,h4⟩ := pos_makes (k := l.length) (by rw [List.take_length]; exact h1)
     exact .inr ⟨0,i,⟨by show 0 < 1; omega,.inr ⟨i,h3,h4,rfl⟩⟩,.inl ⟨hb0.symm,.inl (by show (i : Int) < (l.length : Int); omega)⟩⟩
 · rw [e0 b hb] at hp'; cases hp'
theorem E23 : Ent Tryz.prog 23 := ⟨_,Tryz.func23,by kernel_rfl,by kernel_rfl⟩
theorem E29 : Ent Tryz.prog 29 := ⟨_,Tryz.func29,by kernel_rfl,by kernel_rfl⟩
theorem E46 : Ent Tryz.prog 46 := ⟨_,Tryz.func46,by kernel_rfl,by kernel_rfl⟩
def shI : List D.Ins := [⟨14,2,0,[0,1],0⟩]
theorem sh4_good : GoodF (one3 2 shI (ret3 2)) := good_one (by decide) (by decide) (by decide) (by decide) (by decide) (by decide) (fun k hk v hv => by have e : k = 0 := (by have : k < 1 := hk; omega); subst e; exact .inl (by have : v ∈ [(0 : Int),1] := hv; simp at this; omega)) (fun v hv => .inr (by have : v ∈ [(2 : Int)] := hv; simp at this; subst this; decide))
theorem sh4_law : ((((((decide ((runF (one3 2 [⟨14,2,0,[0,1],0⟩] (ret3 2)) ⟨[7,2],[],[],5⟩).End = 1)) && (decide ((runF (one3 2 [⟨14,2,0,[0,1],0⟩] (ret3 2)) ⟨[7,2],[],[],5⟩).Val = 3))) && (decide ((runF (one3 2 [⟨14,2,0,[0,1],0⟩] (ret3 2)) ⟨[7,2],[],[],5⟩).Steps = 2))) && (decide ((runF (one3 2 [⟨14,2,0,[0,1],0⟩] (ret3 2)) ⟨[7],[],[],5⟩).End = 2))) && (decide ((runF (one3 2 [⟨14,2,0,[0,1],0⟩] (ret3 2)) ⟨[7],[],[],5⟩).Val = (-1)))) && (decide ((runF (one3 2 [⟨14,2,0,[0,1],0⟩] (ret3 2)) ⟨[7],[],[],5⟩).Steps = 1))) = true := by decide +kernel
theorem ret4_ct (v : Int) (ww0 : IntKind.i64.wrap v = v) : Ts Tryz.prog 46 #[.int .i64 v] [] [] rTerm vTerm (ret3 v) := by
 refine jenter (args := [.int .i64 v]) Tryz.func46 rfl rfl rfl fun w0 X => ?_
 refine jq (jr (jalc J60 Z fun g2 => jn (jx (jq (jr (jm Z (jlit (r := (rI .i64)) (l := [v]) U22 I3 (by decide) Z Z Z (lV Z Z (wI (wp ww0)) ln) fun g4 => js (jbu (v := .agg #[.int .i64 4,(.slice (some ⟨g4,0,none⟩) 1 1),.slice none 0 0,.int .i32 0]) Z (fun _ => by kernel_rfl)) (jsta k1 Z60 Z Z Z ⟨Z,Z,Z,Z,trivial⟩ (saf Z) (jn ?_)))))))))
 refine jx (jrt (qfz k1 (by (try simp) <;> omega) ?_))
 exact jrcA (val := vTerm) (b := ⟨4,[v],[],0⟩) (c := ((.slice (some ⟨g4,0,none⟩) 1 1),.slice none 0 0)) Z Z k0 A60 Z60 Z (by rfl) (rTerm.M (m := ⟨4,[v],[],0⟩) (c := ((.slice (some ⟨g4,0,none⟩) 1 1),.slice none 0 0)) d0 wN (wl 4) (wl 0))
theorem one4_ct (p : Int) {a1 : Value} {l : List D.Ins} {a2a a2b : Value} {t : D.Term} (ww0 : IntKind.i64.wrap p = p) : Ts Tryz.prog 29 #[.int .i64 p,a1,vTerm t (a2a,a2b)] [dv (rL rIns) a1 l,da rTerm (vTerm t (a2a,a2b)) t] [] rFunc vFunc (one3 p l t) := by
 refine jenter (args := [.int .i64 p,a1,vTerm t (a2a,a2b)]) Tryz.func29 rfl rfl rfl fun w0 X => ?_
 refine jq (jr (jbox Z Z fun g5 => jalc J49 Z fun g6 => jn (jx (jq (jr (jm Z (jm Z (js (jla k1 A60 Z60 Z Z Z) (jdq d0 fun q1 w1 => ?_)))))))))
 refine jdq (rTerm.c_Args d1) fun q2 w2 => jdq (rTerm.c_To d1) fun q3 w3 => js (jbu (v := .agg #[.slice none 0 0,a1,.int .i64 t.Kind,a2a,a2b,.int .i32 t.Imm]) Z (fun _ => by obtain ⟨_,_,_,rfl⟩ := w1; obtain ⟨_,_,_,rfl⟩ := w2; obtain ⟨_,_,_,rfl⟩ := w3; kernel_rfl)) (jlit (r := rBlock) (l := [⟨[],l,t⟩]) U47 I62 (by decide) Z Z Z (lA (rBlock.M (m := ⟨[],l,t⟩) (c := (.slice none 0 0,a1,a2a,a2b)) wN d0 (rTerm.c_Args d1) (rTerm.c_To d1) (rTerm.W_Kind d1) (rTerm.W_Imm d1)) ln) fun g11 => js (jbu (v := .agg #[.int .i64 p,(.slice (some ⟨g11,0,none⟩) 1 1)]) Z (fun _ => by kernel_rfl)) (jsta k1 Z49 Z Z Z ⟨Z,Z,trivial⟩ (saf Z) (jn (jx (jrt (qfz k1 (by (try simp) <;> omega) ?_))))))
 exact jrcA (val := vFunc) (b := ⟨p,[⟨[],l,t⟩]⟩) (c := (.slice (some ⟨g11,0,none⟩) 1 1)) Z Z k0 A49 Z49 Z (by rfl) (rFunc.M (m := ⟨p,[⟨[],l,t⟩]⟩) (c := (.slice (some ⟨g11,0,none⟩) 1 1)) d0 (wp ww0))
attribute [local irreducible] runF
theorem shown4_ct  : Tv Tryz.prog 19 #[] [] [] (.bool true) := by
 refine jenter (args := []) Tryz.func19 rfl rfl rfl fun w0 X => ?_
 refine jq (jr (ja Z (jn (jx (jq (jr (jlit (r := (rI .i64)) (l := [0,1]) U22 I3 (by decide) Z Z Z (lV Z Z (wI (wl 0)) (lV Z Z (wI (wl 1)) ln)) fun g4 => js (jbu (v := .agg #[.int .i64 14,.int .i64 2,.int .i64 0,(.slice (some ⟨g4,0,none⟩) 2 2),.int .i32 0]) Z (fun _ => by kernel_rfl)) (jfz k0 (by (try simp) <;> omega) (jlit (r := rIns) (l := [⟨14,2,0,[0,1],0⟩]) U58 I67 (by decide) Z Z Z (lA (rIns.M (m := ⟨14,2,0,[0,1],0⟩) (c := (.slice (some ⟨g4,0,none⟩) 2 2)) d0 (wl 14) (wl 2) (wl 0) (wl 0)) ln) fun g6 => jcs2 E46 Z Z (ret4_ct 2 (by decide)) dn kn fun c7a c7b => ?_)))))))))
 refine jfz k0 (by (try simp) <;> omega) (jdq d0 fun q4 w4 => jcs E29 Z Z (one4_ct 2 (by decide)) (dc d0 (dc d1 dn)) kn fun c8 => jalc J49 Z fun g1 => jdq (rFunc.cB d0) fun q6 w6 => jsta k0 Z49 Z Z Z ⟨Z,w6.one,trivial⟩ (saf Z) (jn (jx (jq (jr (js (jla k0 A49 Z49 Z Z Z) (jlit (r := (rI .i32)) (l := [7,2]) U29 I21 (by decide) Z Z Z (lV Z Z (wI (wl 7)) (lV Z Z (wI (wl 2)) ln)) fun g10 => ?_)))))))
 refine js (jbu (v := .agg #[(.slice (some ⟨g10,0,none⟩) 2 2),.slice none 0 0,.slice none 0 0,.int .i64 5]) Z (fun _ => by kernel_rfl)) (jfz k0 (by (try simp) <;> omega) (jcs2 E23 Z Z (rRun_ct (i := ⟨[7,2],[],[],5⟩) sh4_good (by decide)) (dc d1 (dc (rInput.M (m := ⟨[7,2],[],[],5⟩) (c := ((.slice (some ⟨g10,0,none⟩) 2 2),.slice none 0 0,.slice none 0 0)) d0 wN wN (wl 5)) dn)) kn fun c12a c12b => jalc J37 Z fun g2 => jdq (rOutcome.c_Mem d0) fun q9 w9 => jdq (rOutcome.c_Calls d0) fun q10 w10 => jsta k0 Z37 Z Z Z ⟨Z,Z,w9.one,w10.one,Z,trivial⟩ (saf Z) (jn (jx (jq (jr (js (jla k1 A49 Z49 Z Z Z) ?_)))))))
 refine jlit (r := (rI .i32)) (l := [7]) U29 I21 (by decide) Z Z Z (lV Z Z (wI (wl 7)) ln) fun g14 => js (jbu (v := .agg #[(.slice (some ⟨g14,0,none⟩) 1 1),.slice none 0 0,.slice none 0 0,.int .i64 5]) Z (fun _ => by kernel_rfl)) (jfz k0 (by (try simp) <;> omega) (jcs2 E23 Z Z (rRun_ct (i := ⟨[7],[],[],5⟩) sh4_good (by decide)) (dc d3 (dc (rInput.M (m := ⟨[7],[],[],5⟩) (c := ((.slice (some ⟨g14,0,none⟩) 1 1),.slice none 0 0,.slice none 0 0)) d0 wN wN (wl 5)) dn)) kn fun c16a c16b => jalc J37 Z fun g3 => jdq (rOutcome.c_Mem d0) fun q13 w13 => jdq (rOutcome.c_Calls d0) fun q14 w14 => jsta k0 Z37 Z Z Z ⟨Z,Z,w13.one,w14.one,Z,trivial⟩ (saf Z) (jn (jx (jq (jr ?_))))))
 refine js (jf F37_0 Z) (js (jl k1 O3 Z Z) (js (jeql Z Z) (jm Z (jg Z Z (.t _) (fun hg => jf F37_1 Z) (jg Z Z (.t _) (fun hg => jl k1 O21 (evg Z hg) Z) (jg Z Z (.t _) (fun hg => jeql (evg Z hg) Z) (js (jand Z Z) (jm Z (jg Z Z (.t _) (fun hg => jf F37_4 Z) (jg Z Z (.t _) (fun hg => jl k1 O3 (evg Z hg) Z) (jg Z Z (.t _) (fun hg => jeql (evg Z hg) Z) ?_)))))))))))
 refine js (jand Z Z) (jm Z (jg Z Z (.t _) (fun hg => jf F37_0 Z) (jg Z Z (.t _) (fun hg => jl k0 O3 (evg Z hg) Z) (jg Z Z (.t _) (fun hg => jeql (evg Z hg) Z) (js (jand Z Z) (jm Z (jg Z Z (.t _) (fun hg => jf F37_1 Z) (jg Z Z (.t _) (fun hg => jl k0 O21 (evg Z hg) Z) (jg Z Z (.t _) (fun hg => jeql (evg Z hg) Z) (js (jand Z Z) (jm Z ?_)))))))))))
 refine jg Z Z (.t _) (fun hg => jf F37_4 Z) (jg Z Z (.t _) (fun hg => jl k0 O3 (evg Z hg) Z) (jg Z Z (.t _) (fun hg => jeql (evg Z hg) Z) (js (jand Z Z) (ja Z (jn (jx (jrt ?_)))))))
 exact jrB Z Z (sh4_law.symm)
end Go.Proofs.YtmfkkodnghambaaGreat
namespace Go.Proofs.YtmfkkodnghambaaGreat
open Go.JE
def aok (op : Int) (n : Nat) : Prop := (operM op).1 ≤ (n : Int) ∧ (n : Int) ≤ (operM op).2
instance (op : Int) (n : Nat) : Decidable (aok op n) := by unfold aok; infer_instance
def tok (t : D.Term) : Prop := (t.Kind = 2 ∨ t.Kind = 3 → t.Args.length = 1) ∧ (t.Kind = 1 ∨ t.Kind = 5 → t.Args.length = 0) ∧ (t.Kind = 4 → t.Args.length ≤ 1)
def AB (bs : List D.Block) : Prop := ∀ j,(∀ i ∈ (ix bs j).Ins,aok i.Op i.Args.length) ∧ tok (ix bs j).Term
theorem AB.put {bs : List D.Block} {b : Nat} {x : D.Block} (h : AB bs) (hi : ∀ i ∈ x.Ins,i ∈ (ix bs b).Ins ∨ aok i.Op i.Args.length) (ht : x.Term = (ix bs b).Term ∨ tok x.Term) : AB (bs.set b x) := fun j => by
 by_cases hb : b < bs.length
 · rw [ix_set hb]; split
   · rename_i e; subst e
     exact ⟨fun i h1 => (hi i h1).elim ((h _).1 i) id,ht.elim (fun e => e ▸ (h _).2) id⟩
   · exact h j
 · rw [List.set_eq_of_length_le (by omega)]; exact h j
def AG (m m' : Mk) : Prop := AB m.bs → AB m'.bs
section
variable {m m' m2 : Mk} {j : Int} {b : Nat}
theorem AG.rf : AG m m := id
theorem AG.tr (h : AG m m') (h2 : AG m' m2) : AG m m2 := fun h3 => h2 (h h3)
theorem AG.same (h2 : m'.bs = m.bs) : AG m m' := fun h => h2 ▸ h
theorem AG.ad {i : D.Ins} (h2 : m'.bs = m.bs) (hi : aok i.Op i.Args.length) : AG m (addS j i m') := fun h => by
 show AB (m'.bs.set _ _)
 rw [h2]
 exact h.put (fun x hx => (List.mem_append.1 hx).imp id (fun h1 => by simp at h1; subst h1; exact hi)) (.inl rfl)
theorem AG.con {v : Int} (h : AG m m') : AG m (constS j v m') := h.tr (AG.ad (m' := freshS m') rfl (by show aok 1 0; decide))
theorem AG.tk (h : AG m m') : AG m (tSS m') := h.tr (.same rfl)
theorem AG.wd (h : AG m m') : AG m (wordS m') := h.tr (.same rfl)
theorem AG.aF {op x v : Int} {a : List Int} (h : AG m m') (ho : aok op a.length) : AG m (addS j ⟨op,x,0,a,v⟩ (freshS m')) := h.tr (AG.ad rfl ho)
theorem AG.aT {op x v : Int} {a : List Int} (h : AG m m') (ho : aok op a.length) : AG m (addS j ⟨op,x,0,a,v⟩ (tSS (freshS m'))) := h.tr (AG.ad rfl ho)
theorem AG.val (h : AG m m') : AG m (valueS m') := by unfold valueS; split; exact h; exact .tk (.tk h)
theorem AG.som0 (h : AG m m') : AG m (someM0 m') := by
 unfold someM0; split
 · exact .tk (.val h)
 · exact .val h
theorem AG.som (h : AG m m') : AG m (sS9 j m') := by
 unfold sS9; split
 · exact .con (.wd (.som0 h))
 · exact .som0 h
theorem AG.me1 (h : AG m m') : AG m (mem1 j m').2 := by
 unfold mem1; dsimp only; split
 · exact .aF (.aF (.con (.som (.tk (.con (.tk h))))) (by show aok 5 2; decide)) (by show aok 2 2; decide)
 · exact .tk (.con (.tk h))
theorem AG.me2 (h : AG m m') : AG m (mem2 m').2 := by unfold mem2; dsimp only; split <;> exact h.tr (.same rfl)
theorem AG.mem {st : Bool} (h : AG m m') : AG m (memS j st m') := by
 unfold memS; dsimp only; split
 · exact AG.tr (m' := sS9 j (mem2 (mem1 j m').2).2) (.som (.me2 (.me1 h))) (AG.ad rfl (by show aok 16 2; decide))
 · exact .aF (.me2 (.me1 h)) (by show aok 15 1; decide)
theorem argsL_len (b : Int) : ∀ (k : Nat) (l : List Int) (m : Mk),(argsL b k l m).1.length = l.length + k
 | 0,_,_ => rfl
 | k + 1,l,m => by rw [argsL,argsL_len b k]; simp; omega
theorem AG.args : ∀ (k : Nat) (l : List Int) (m' : Mk),AG m m' → AG m (argsL j k l m').2
 | 0,_,_,h => h
 | k + 1,l,m',h => by rw [argsL]; exact AG.args k _ _ (.som h)
theorem op_aok {i : Nat} (h : i < 12) : aok (ix [(2 : Int),2,3,4,5,6,7,8,9,10,12,11] i) 2 := by
 have : ∀ i : Nat,i < 12 → aok (ix [(2 : Int),2,3,4,5,6,7,8,9,10,12,11] i) 2 := by decide
 exact this i h
theorem AG.mw {d t : Int} {a : List Int} (h : AG m m') (ha : a.length = 2) : AG m (addS j ⟨18,d,t,a,0⟩ (freshS (freshS m'))) := h.tr (AG.ad rfl (by show aok 18 a.length; rw [ha]; decide))
theorem AG.ins (h : AG m m') : AG m (insS j m') := by
 have hk := tV9 (n := 20) (by omega) m'
 unfold insS; dsimp only
 generalize tVV 20 m' = k at hk
 have h3 : AG m (sS9 j (sS9 j (tSS m'))) := .som (.som (.tk h))
 split
 · split
   · exact .aF (.con (.tk (.tk h3))) (op_aok (by omega))
   · exact .aF (.tk h3) (op_aok (by omega))
 split
 · exact .aF h3 (by show aok _ 2; decide)
 split
 · split
   · exact .aF (.con (.tk (.tk (.con (.tk (.som (.tk h))))))) (by show aok _ 2; decide)
   · exact .aF (.tk (.con (.tk (.som (.tk h))))) (by show aok _ 2; decide)
 split
 · exact .mem (.tk h)
 split
 · refine .aT (AG.args _ _ _ (.tk (.tk h))) ?_
   have h5 := tV9 (n := 5) (by omega) (tSS m')
   have e : aok 17 (argsL j (tVV 5 (tSS m')).toNat [] (tSS (tSS m'))).1.length := by
     rw [argsL_len]
     have : ∀ q : Nat,q ≤ 4 → aok 17 (([] : List Int).length + q) := by decide
     exact this _ (by omega)
   exact e
 split
 · exact .mw h3 rfl
 · exact .con (.wd (.tk h))
theorem AG.is : ∀ (k : Nat) (m' : Mk),AG m m' → AG m (insN b k m')
 | 0,_,h => h
 | k + 1,m',h => by rw [insN]; exact AG.is k _ (.ins h)
theorem AG.sT {t : D.Term} (h : AG m m') (ht : tok t) : AG m (setT j t m') := h.tr fun h => by
 show AB (m'.bs.set _ _)
 exact h.put (fun i hi => .inl hi) (.inr ht)
theorem AG.en {l : List Int} (h : AG m m') : AG m (endS j l m') := by
 unfold endS
 split
 · split
   · exact .sT (.tk (.tk h)) ⟨fun h => by simp at h,fun _ => rfl,fun h => by simp at h⟩
   split
   · exact .sT (.som (.tk h)) ⟨fun h => by simp at h,fun h => by simp at h,fun _ => by simp⟩
   · exact .sT (.tk h) ⟨fun h => by simp at h,fun h => by simp at h,fun _ => by simp⟩
 split
 · exact .sT h ⟨fun h => by simp at h,fun _ => rfl,fun h => by simp at h⟩
 split
 · dsimp only
   split
   · have ho : ∀ i : Nat,i < 3 → aok (ix [(11 : Int),12,13] i) 2 := by decide
     have hr := tV9 (n := 3) (by omega) (freshS (sS9 j (tSS (sS9 j m'))))
     exact .sT (.aT (.som (.tk (.som h))) (ho _ (by omega))) ⟨fun _ => rfl,fun h => by simp at h,fun h => by simp at h⟩
   · exact .sT (.tk (.som h)) ⟨fun _ => rfl,fun h => by simp at h,fun h => by simp at h⟩
 · dsimp only
   exact .sT (.aF (.con (.som h)) (by show aok _ 2; decide)) ⟨fun _ => rfl,fun h => by simp at h,fun h => by simp at h⟩
theorem AG.bl {n : Nat} {to : List (List Int)} {dn : List Bool} : AG m (blkM n to b dn m) := by
 unfold blkM
 exact AG.en (AG.is _ _ (.tk (.same rfl)))
theorem AG.row {n : Nat} {to : List (List Int)} : ∀ (k b : Nat) (dn : List Bool) (m : Mk),AG m (rowS n to k b dn m).2
 | 0,_,_,_ => .rf
 | k + 1,b,dn,m => by
   rw [rowS]; split
   · exact AG.bl.tr (AG.row k _ _ _)
   · exact AG.row k _ _ _
theorem AG.turn {n : Nat} {to : List (List Int)} : ∀ (k : Nat) (dn : List Bool) (m : Mk),AG m (turnS n to k dn m).2
 | 0,_,_ => .rf
 | k + 1,dn,m => by rw [turnS]; exact (AG.row _ _ _ _).tr (AG.turn k _ _)
theorem AG.ap : AG m (addP b m) := fun h => by
 show AB (m.bs.set _ _)
 exact h.put (fun i hi => .inl hi) (.inl rfl)
theorem AG.pn : ∀ (k : Nat) (m : Mk),AG m (phiN b k m)
 | 0,_ => .rf
 | k + 1,m => by rw [phiN]; exact AG.ap.tr (AG.pn k _)
theorem AG.ps : ∀ (k j : Nat) (ph : List Int) (m : Mk),AG m (phiS k j ph m).2
 | 0,_,_,_ => .rf
 | k + 1,j,ph,m => by rw [phiS]; exact AG.tr (m' := tSS m) (.tk .rf) ((AG.pn _ _).tr (AG.ps k _ _ _))
theorem AG.inx {p : Int} : AG m (inX p m).2 := by
 unfold inX; split
 · exact .tk (.con (.wd .rf))
 · exact .tk .rf
theorem AG.ins' {p : List Int} : ∀ (k i : Nat) (l : List D.In) (m : Mk),AG m (inS p k i l m).2
 | 0,_,_,_ => .rf
 | k + 1,i,l,m => by rw [inS]; exact AG.inx.tr (AG.ins' k _ _ _)
theorem AG.pi {i : Nat} {l : List D.In} : AG m (putIn b i l m) := fun h => by
 show AB (m.bs.set _ _)
 exact h.put (fun i hi => .inl hi) (.inl rfl)
theorem AG.ip {p : List Int} : ∀ (k i : Nat) (m : Mk),AG m (inP p b k i m)
 | 0,_,_ => .rf
 | k + 1,i,m => by rw [inP]; exact (AG.ins' _ _ _ _).tr (AG.pi.tr (AG.ip k _ _))
theorem AG.fi {ph : List Int} : ∀ (k j : Nat) (m : Mk),AG m (finS ph k j m)
 | 0,_,_ => .rf
 | k + 1,j,m => by rw [finS]; exact (AG.ip _ _ _).tr (AG.fi k _ _)
end
theorem made3_args (s : List Int) : AB (made3 s).Blocks := by
 have hb : AB (mdB s).bs := fun j => by
   obtain ⟨a1,a2,a3,a4,a5⟩ := toS_bs (mdT s).1 (mdN s).toNat 0 { (mdT s).2 with bs := List.replicate (mdN s).toNat default }
   obtain ⟨h0,_,_,_,_⟩ := mdB_RI s
   by_cases hj : j < (mdN s).toNat
   · have := a5 j (by show j < (List.replicate _ _).length; simpa using hj)
     rw [if_pos (by omega)] at this
     dsimp only at this
     rw [ix_repD] at this
     have e : ix (mdB s).bs j = { (default : D.Block) with Term := { (default : D.Block).Term with To := ix (mdT s).1 j } } := this
     rw [e]
     exact ⟨fun i hi => (by cases hi),⟨fun h => (by rcases h with h | h <;> cases h),fun _ => rfl,fun _ => Nat.zero_le _⟩⟩
   · rw [ix_out (by have := h0.len; show (mdB s).bs.length ≤ j; omega)]
     exact ⟨fun i hi => (by cases hi),⟨fun h => (by rcases h with h | h <;> cases h),fun _ => rfl,fun _ => Nat.zero_le _⟩⟩
 exact ((AG.ps _ _ _ _).tr (AG.turn _ _ _)).tr (AG.fi _ _ _) hb
section
variable {f : D.Func} {n : Nat} {to : List (List Int)} {nx : Int}
theorem Right3.gr (h : Right3 n to f nx) {q t : Nat} (hq : q < n) : prG (graphF f) q t ↔ (t : Int) ∈ ix to q := by
 have hl := h.len
 have h1 : ix (cleanM (graphF f)) q = keptM (ix (graphF f) q) (graphF f).length := by unfold cleanM; rw [ix_mapG (by rw [graph_len]; omega)]
 have h2 : ix (graphF f) q = keptM (ix f.Blocks q).Term.To f.Blocks.length := by unfold graphF; rw [ix_mapG (l := f.Blocks) (by omega)]
 unfold prG
 rw [h1,h2,graph_len,kept_kept,kept_mem,h.tos q hq]
 refine ⟨fun h => h.1,fun h3 => ⟨h3,?_⟩⟩
 have := h.tr.2.2 q _ h3
 omega
theorem Right3.rb (h : Right3 n to f nx) {w b : Nat} (hr : RB (prG (graphF f)) w b) : RA to n w b ∧ b < n := by
 have hn := h.n1
 have hl := h.len
 induction hr with
 | zero h0 => exact ⟨.zero h0,by omega⟩
 | @step x t h1 h2 h3 ih =>
   have h4 := (h.gr ih.2).1 h2
   have h5 := h.tr.2.2 x _ h4
   have := RA.step ih.1 h4 h5.1 h5.2 (by omega)
   rw [Int.toNat_natCast] at this
   exact ⟨this,by omega⟩
theorem Right3.rch (h : Right3 n to f nx) : ∀ (k b : Nat),b < k → b < n → RB (prG (graphF f)) n b
 | 0,b,hb,_ => absurd hb (Nat.not_lt_zero _)
 | k + 1,b,hk,hb => by
   have hn := h.n1
   by_cases e : b = 0
   · rw [e]; exact .zero (by omega)
   · obtain ⟨p,h1,h2⟩ := h.pb b (by omega) (by omega)
     exact .step (h.rch k p (by omega) (by omega)) ((h.gr (by omega)).2 h2) (by omega)
theorem Right3.pk (h : Right3 n to f nx) {v : Nat} : ∀ k,k ≤ n → predK (cleanM (graphF f)) k v = pT to k v
 | 0,_ => rfl
 | k + 1,hk => by
   rw [predK,pT,h.pk k (by omega)]
   congr 1
   have h1 : (v : Int) ∈ ix (cleanM (graphF f)) k ↔ (v : Int) ∈ ix to k := h.gr (by omega)
   by_cases h2 : (v : Int) ∈ ix to k
   · rw [if_pos (h1.2 h2),if_pos (List.any_eq_true.2 ⟨_,h2,by simp⟩)]
   · rw [if_neg (fun h3 => h2 (h1.1 h3)),if_neg (fun h3 => by
       obtain ⟨y,h4,h5⟩ := List.any_eq_true.1 h3
       simp at h5; subst h5; exact h2 h4)]
theorem cnt_cI : ∀ (l : List D.Block),(∀ x ∈ l,x.Phis.length ≤ 3) → cntF3 l ≤ 3 * l.length + cI l
 | [],_ => by simp [cntF3,cI]
 | x :: l,h => by
   have h1 := cnt_cI l (fun y hy => h y (by simp [hy]))
   have h2 := h x (by simp)
   unfold cntF3 at h1 ⊢
   rw [List.map_cons,List.sum_cons,cI,List.length_cons]
   omega
theorem Right3.us (h : Right3 n to f nx) {b a : Nat} {v : Int} {p : Int} (ha : a < n) (hab : a ≠ b) (hr : ¬ RA to n a b) (hv : v ∈ mkB (ix f.Blocks a)) : US f v b p := by
 have hl := h.len
 refine .inr ?_
 rcases mkB_ix.1 hv with ⟨i,h1,h2⟩ | ⟨i,h1,h2⟩
 · exact ⟨a,-1 - (i : Int),⟨by omega,.inl ⟨i,h1,h2,rfl⟩⟩,.inr ⟨hab,fun h3 => hr (h.rb h3).1⟩⟩
 · exact ⟨a,i,⟨by omega,.inr ⟨i,h1,h2,rfl⟩⟩,.inr ⟨hab,fun h3 => hr (h.rb h3).1⟩⟩
theorem us_phi {b i : Nat} {v p : Int} (hb : b < f.Blocks.length) (hi : i < (ix f.Blocks b).Phis.length) (hv : v = (ix (ix f.Blocks b).Phis i).Dst) : US f v b p :=
 .inr ⟨b,-1 - (i : Int),⟨hb,.inl ⟨i,hi,hv,rfl⟩⟩,.inl ⟨rfl,.inr (by omega)⟩⟩
theorem us_ins {b i : Nat} {v p : Int} (hb : b < f.Blocks.length) (hi : i < (ix f.Blocks b).Ins.length) (hv : v ∈ makes3 (ix (ix f.Blocks b).Ins i)) (hp : (i : Int) < p) : US f v b p :=
 .inr ⟨b,i,⟨hb,.inr ⟨i,hi,hv,rfl⟩⟩,.inl ⟨rfl,.inl hp⟩⟩
theorem Right3.vo (h : Right3 n to f nx) {b : Nat} {v p : Int} (hv : Vo n to f.Params f.Blocks b v) : US f v b p := by
 rcases hv with h1 | ⟨a,h1,⟨h2,h3⟩,h4⟩
 · exact .inl h1
 · exact h.us h1 h2 h3 h4
theorem Right3.vs (h : Right3 n to f nx) {b : Nat} {v : Int} (hb : b < n) (hv : Vs n to f.Params f.Blocks b v) : US f v b (ix f.Blocks b).Ins.length := by
 have hl := h.len
 rcases hv with h1 | ⟨a,h1,h3,h4⟩
 · exact .inl h1
 · by_cases e : a = b
   · subst e
     rcases mkB_ix.1 h4 with ⟨i,h5,h6⟩ | ⟨i,h5,h6⟩
     · exact us_phi (by omega) h5 h6
     · exact us_ins (by omega) h5 h6 (by omega)
   · exact h.us h1 e (h3.resolve_left e) h4
theorem good_of (h : Right3 n to f nx) (hV : VI n to f.Params f.Blocks) {ny : Int} (hU : UI f.Params ny f.Blocks) (hA : AB f.Blocks) : GoodF f := by
 have hn := h.n1
 have hl := h.len
 refine ⟨h.par,⟨by omega,by omega⟩,?_,⟨hU.nd,hU.dj⟩,fun b hb r hr => ?_,fun b hb i hi => ?_,fun b hb => ?_,fun b hb t ht => ?_,fun b hb => ⟨n,h.rch (b + 1) b (by omega) (by omega)⟩,fun b hb p hp => ?_,fun b hb i hi v hv => ?_,fun b hb v hv => h.vs (by omega) (hV.tm b (by omega) v hv),fun b hb p hp x hx => ?_⟩
 · have h1 := cnt_cI f.Blocks (fun x hx => by
     obtain ⟨j,hj,e⟩ := List.getElem_of_mem hx
     rw [← e,← ix_eq hj]; exact h.ph3 j (by omega))
   have := h.cnt
   omega
 · have h1 := hU.rg b r hr
   have h2 := h.blk b (by omega)
   have h3 := h.nxb
   rcases List.mem_append.1 hr with h4 | h4
   · obtain ⟨p,h5,h6⟩ := List.mem_map.1 h4
     have := (h2.2.1 p h5).1; omega
   · obtain ⟨i,h5,h6⟩ := List.mem_flatMap.1 h4
     have := (h2.1 i h5).2.2.2.2.1 r h6; omega
 · exact ⟨((h.blk b (by omega)).1 i hi).1,(hA b).1 i hi⟩
 · obtain ⟨h1,h2,h3⟩ := (hA b).2
   have hk := h.kd b (by omega)
   have hg := (h.blk b (by omega)).2.2.1.resolve_left hk
   obtain ⟨g1,g2,g3,g4,g5,g6⟩ := hg
   generalize (ix f.Blocks b).Term = t at *
   have hk5 : t.Kind = 1 ∨ t.Kind = 2 ∨ t.Kind = 3 ∨ t.Kind = 4 ∨ t.Kind = 5 := by omega
   rcases hk5 with e | e | e | e | e
   · exact ⟨(0,0,1,1),by rw [e]; rfl,by have := h2 (.inl e); dsimp only; omega,by have := g3 e; dsimp only; omega⟩
   · exact ⟨(1,1,2,2),by rw [e]; rfl,by have := h1 (.inl e); dsimp only; omega,by have := (g4 e).1; dsimp only; omega⟩
   · exact ⟨(1,1,2,65),by rw [e]; rfl,by have := h1 (.inr e); dsimp only; omega,by have := g5 e; dsimp only; omega⟩
   · exact ⟨(0,1,0,0),by rw [e]; rfl,by have := h3 e; dsimp only; omega,by rw [g6 (by omega)]; exact ⟨Int.le_refl _,Int.le_refl _⟩⟩
   · exact ⟨(0,0,0,0),by rw [e]; rfl,by have := h2 (.inr e); dsimp only; omega,by rw [g6 (by omega)]; exact ⟨Int.le_refl _,Int.le_refl _⟩⟩
 · rw [h.tos b (by omega)] at ht
   have := h.tr.2.2 b t ht
   omega
 · have h0 : b ≠ 0 := fun e => by subst e; rw [h.ph0] at hp; cases hp
   refine ⟨by omega,?_⟩
   rw [h.fr b (by omega) p hp,predsG_at,graph_len,hl,h.pk n (Nat.le_refl _)]
 · rcases hV.gd b (by omega) i hi v hv with (h1 | h1) | h1
   · exact h.vo h1
   · obtain ⟨p,h2,h3⟩ := List.mem_map.1 h1
     obtain ⟨j,hj,e⟩ := List.getElem_of_mem h2
     exact us_phi hb hj (by rw [ix_eq hj,e]; exact h3.symm)
   · obtain ⟨j,h2,h3,h4⟩ := pos_makes h1
     exact us_ins hb h3 h4 (by omega)
 · obtain ⟨h1,h2⟩ := hV.ph b (by omega) p hp x hx
   exact h.vs (by omega) h2
end
theorem good_made3 (s : List Int) : GoodF (made3 s) := by
 obtain ⟨nx,h⟩ := made3_right s
 obtain ⟨ny,hU⟩ := made3_once s
 exact good_of h (made3_dom s) hU (made3_args s)
def lawMade4 (l by' : List Int) (q : Int) : D.Func × D.Input := (made3 (l.take 200),{ input3 (by'.take 60) with Steps := min (max q (-1)) 500 })
theorem lawMade4_ct {a0 : Value} {l : List Int} {N0 : Nat} {a1 : Value} {b : List Int} {N1 : Nat} (q : Int) : Tr Tryz.prog 20 #[a0,a1,.int .i64 q] [dv (rLn N0 (rI .i64)) a0 l,dv (rLn N1 (rI .i64)) a1 b] [] (fun c : Value × (Value × Value × Value) => .tuple #[vFunc ((lawMade4 l b q).1) c.1,vInput ((lawMade4 l b q).2) c.2]) (fun c => [da rFunc (vFunc ((lawMade4 l b q).1) c.1) ((lawMade4 l b q).1),da rInput (vInput ((lawMade4 l b q).2) c.2) ((lawMade4 l b q).2)]) (fun _ _ => []) := by
 refine jenter (args := [a0,a1,.int .i64 q]) Tryz.func20 rfl rfl rfl fun w0 X => ?_
 refine jq (jr (jalc J49 Z fun g6 => jalc J31 Z fun g7 => jn (jx (jq (jr (jm Z (jm Z (jdq d0 fun q1 w1 => js (jln U22 d0 Z) ?_))))))))
 refine js (jmin Z Z) (js (jshi (hi := (Int.toNat (min (↑(List.length l)) 200))) U22 Z3 d0 Z Z (by omega) (by omega)) (jdq (dhi d0 (Int.toNat (min (↑(List.length l)) 200)) (by omega) (by omega)) fun q2 w2 => jcs E31 Z Z r3made_ct (dc (dhi d0 (Int.toNat (min (↑(List.length l)) 200)) (by omega) (by omega)) dn) kn fun c15 => jalc J49 Z fun g8 => jdq (rFunc.cB d0) fun q4 w4 => jsta k0 Z49 Z Z Z ⟨Z,w4.one,trivial⟩ (saf Z) (jn (jx (jq (jr (jm Z ?_)))))))
 refine jm Z (jdq d2 fun q5 w5 => js (jln U22 d2 Z) (js (jmin Z Z) (js (jshi (hi := (Int.toNat (min (↑(List.length b)) 60))) U22 Z3 d2 Z Z (by omega) (by omega)) (jdq (dhi d2 (Int.toNat (min (↑(List.length b)) 60)) (by omega) (by omega)) fun q6 w6 => jcs3 E34 Z Z r3input_ct (dc (dhi d2 (Int.toNat (min (↑(List.length b)) 60)) (by omega) (by omega)) dn) kn fun c21a c21b c21c => jalc J31 Z fun g9 => jdq (rInput.c_Args d0) fun q8 w8 => jdq (rInput.c_Mem d0) fun q9 w9 => jdq (rInput.c_Answers d0) fun q10 w10 => jsta k0 Z31 Z Z Z ⟨w8.one,w9.one,w10.one,Z,trivial⟩ (saf Z) ?_))))
 refine jn (jx (jq (jr (jm Z (js (jmax Z Z) (js (jmin Z Z) (js (jf F31_3 Z) (jst k0 Z3 Z Z Z s3 (jn (jx (jq ?_)))))))))))
 refine jany true (.a 0 (.a 1 (.o 2 (.o 3 .e)))) Mixed (by kernel_rfl) (kd kn) fun F11 => jy Z (jla k1 A49 Z49 Z Z Z) (jy Z (jla k0 A31 Z31 Z Z Z) (jyo Z (jsta k3 Z49 Z Z Z ⟨Z,w4.one,trivial⟩ (saf Z) (jyn d0 (kc k1 (kc k1 kn)) (jyo Z (jsta k3 Z31 Z Z Z ⟨w8.one,w9.one,w10.one,Z,trivial⟩ (saf Z) (jyz d0 (jyd (jx (jrt ?_))))))))))
 have hm : lawMade4 l b q = (made3 (List.take (Int.toNat (min (((List.length l : Nat) : Int)) 200)) l),⟨(input3 (List.take (Int.toNat (min (((List.length b : Nat) : Int)) 60)) b)).Args,(input3 (List.take (Int.toNat (min (((List.length b : Nat) : Int)) 60)) b)).Mem,(input3 (List.take (Int.toNat (min (((List.length b : Nat) : Int)) 60)) b)).Answers,min (max q (-1)) 500⟩) := (by rw [← take_min l 200 200 rfl,← take_min b 60 60 rfl]; rfl)
 exact jrc2 Z Z Z k1 k0 A49 Z49 A31 Z31 (c15,(c21a,c21b,c21c)) (by rw [hm]; rfl) (by rw [hm]; exact (dc d3 (dc (rInput.M (m := ⟨(input3 (List.take (Int.toNat (min (↑(List.length b)) 60)) b)).Args,(input3 (List.take (Int.toNat (min (↑(List.length b)) 60)) b)).Mem,(input3 (List.take (Int.toNat (min (↑(List.length b)) 60)) b)).Answers,min (max q (-1)) 500⟩) (c := (c21a,c21b,c21c)) (rInput.c_Args (m := input3 (List.take (Int.toNat (min (↑(List.length b)) 60)) b)) (c := (c21a,c21b,c21c)) d2) (rInput.c_Mem (m := input3 (List.take (Int.toNat (min (↑(List.length b)) 60)) b)) (c := (c21a,c21b,c21c)) d2) (rInput.c_Answers (m := input3 (List.take (Int.toNat (min (↑(List.length b)) 60)) b)) (c := (c21a,c21b,c21c)) d2) (wp (IntWalk.i64_in (min (max q (-1)) 500) (by omega)))) dn))) (fun _ _ => kn)
end Go.Proofs.YtmfkkodnghambaaGreat
namespace Go.JE
variable {P : Program} {D D0 : List Dt} {L M Ls L0 : List Res} {e : Env} {X : Cx} {n : Fs} {w0 : World} {Q : Exit → Act → World → Prop}
theorem OpOk.convBS {S T E : TypeId} {x : Operand} {B : Nat} {v : Value} {l : List Int} {F : PH} {H : Heap} (hT : P.underlying S = some (.slice E)) (hE : P.underlying E = some (.int .u8)) (hD : P.underlying T = some .string) (hg : Gl (rI .u8) E F H B v l) (hx : ev e x = some v) : OpOk P e (.convert S T x) H (.string (strOfNums l)) := by
 intro ρ o w ho hev hw
 have h1 : (convert S T v).run P w = .ok (.string (strOfNums l)) w := by
   have hg0 := hg
   obtain ⟨xs,h1,h2,h3⟩ := hg
   rcases h1.2 with ⟨rfl,h0⟩ | ⟨g,cap,cur,rfl,_⟩
   · have : l = [] := List.eq_nil_of_length_eq_zero h0
     subst this
     exact run_convert_bytes_nil w S E hT hE 0 0 T hD
   · refine run_convert_bytes_arg w S E hT hE g 0 l.length cap l rfl (fun i hi => ?_) T hD
     obtain ⟨f,hf,hc0⟩ := hg0.cell hi (j := 0) (by decide)
     rw [cell_hc,hw]
     have e1 : f 0 = .int .u8 l[i] := hf.1
     have e2 : l.getD i 0 = l[i] := by simp [List.getD,hi]
     rw [e2,← e1,← hc0]
     show hc H g (0 + i) = hc H g (0 + (i * 1 + 0))
     rw [Nat.mul_one,Nat.add_zero]
 simp only [execOp,ho,hev _ _ hx]
 rw [run_bind_ok h1]; rfl
theorem jcbs {S T E : TypeId} {x : Operand} {B : Nat} {v : Value} {l : List Int} (hT : P.underlying S = some (.slice E)) (hE : P.underlying E = some (.int .u8)) (hD : P.underlying T = some .string) (hk : Tk L (gl B (rI .u8) E v l) M) (hx : ev e x = some v) : OH P D L e (.convert S T x) (.string (strOfNums l)) := fun F H _ _ h => OpOk.convBS hT hE hD (hk.ok h).1.1 hx
theorem OpOk.eqlS {T T' : TypeId} {x y : Operand} {a b : ByteArray} {H : Heap} (hT : P.underlying T = some .string) (hx : ev e x = some (.string a)) (hy : ev e y = some (.string b)) : OpOk P e (.binOp .eql T x y T') H (.bool (decide (a = b))) := by
 intro ρ o w ho hev _
 simp only [execOp,ho,hev _ _ hx,hev _ _ hy,eqGuard,binOp]
 have h1 : (Op.stringOp .eql a b).run P w = .ok (.bool (decide (a = b))) w := by
   simp [Op.stringOp,Sem.run_pure]
   rw [ByteArray.toList_eq,ByteArray.toList_eq]
   by_cases h : a = b
   · subst h; simp
   · rw [decide_eq_false h]
     have : ¬ a.data.toList = b.data.toList := fun h2 => h (by cases a; cases b; simp at h2; simpa using h2)
     simpa using this
 simp [h1]
theorem jeqlS {T T' : TypeId} {x y : Operand} {a b : ByteArray} (hT : P.underlying T = some .string) (hx : ev e x = some (.string a)) (hy : ev e y = some (.string b)) : OH P D L e (.binOp .eql T x y T') (.bool (decide (a = b))) := fun _ _ _ _ _ => OpOk.eqlS hT hx hy
theorem OpOk.addS {T T' : TypeId} {x y : Operand} {a b : ByteArray} {H : Heap} (hx : ev e x = some (.string a)) (hy : ev e y = some (.string b)) (hl : a.size + b.size ≤ 9223372036854775807) : OpOk P e (.binOp .add T x y T') H (.string (a ++ b)) := by
 intro ρ o w ho hev _
 simp only [execOp,ho,hev _ _ hx,hev _ _ hy,eqGuard,binOp]
 have h1 : (Op.stringOp .add a b).run P w = .ok (.string (a ++ b)) w := by
   simp [Op.stringOp,Sem.run_pure]; omega
 simp [h1]
theorem jaddS {T T' : TypeId} {x y : Operand} {a b : ByteArray} (hx : ev e x = some (.string a)) (hy : ev e y = some (.string b)) (hl : a.size + b.size ≤ 9223372036854775807) : OH P D L e (.binOp .add T x y T') (.string (a ++ b)) := fun _ _ _ _ _ => OpOk.addS hx hy hl
end Go.JE
namespace Go.Proofs.YtmfkkodnghambaaGreat
open Go.JE
abbrev U204 := @Tryz.underlying204
abbrev U5 := @Tryz.underlying5
abbrev U9 := @Tryz.underlying9
theorem I5 : (Tryz.prog.info? 5).map (fun i => (i.zero,i.size,i.bytes)) = some (some (.int .u8 0),1,1) := by kernel_rfl
theorem bsz1 (x : UInt8) : (⟨#[x]⟩ : ByteArray).size = 1 := rfl
def dA3 (u : Int) : Int := if Int.tmod u 10 < 0 then 0 - Int.tmod u 10 else Int.tmod u 10
def dg3S (u : Int) (s : ByteArray) : ByteArray := strOfNums [IntKind.u8.wrap (48 + dA3 u)] ++ s
def dg3F : Nat → Bool → Int → ByteArray → ByteArray
 | 0,_,_,s => s
 | k + 1,fb,u,s => if fb = true ∨ 0 < u then dg3F k false (IntKind.i64.wrap (Int.tdiv u 10)) (dg3S u s) else s
def dg3M (n : Int) : ByteArray := (if n < 0 then (⟨#[45]⟩ : ByteArray) ++ dg3F 25 true (if n < 0 then IntKind.i64.wrap (0 - n) else n) (⟨#[]⟩ : ByteArray) else dg3F 25 true (if n < 0 then IntKind.i64.wrap (0 - n) else n) (⟨#[]⟩ : ByteArray)) ++ (⟨#[32]⟩ : ByteArray)
theorem tm10 (u : Int) : -10 < Int.tmod u 10 ∧ Int.tmod u 10 < 10 := by
 have h1 := Int.tmod_lt_of_pos u (show (0 : Int) < 10 by decide)
 have h2 := Int.lt_tmod_of_pos u (show (0 : Int) < 10 by decide)
 omega
theorem dg3_nx {k : Nat} {fb : Bool} {u : Int} (hw : IntKind.i64.wrap u = u) (hi : (fb = true ∧ k = 25) ∨ (fb = false ∧ k ≤ 24 ∧ u < 10 ^ k)) (hc : fb = true ∨ 0 < u) : 1 ≤ k ∧ (k - 1 ≤ 24 ∧ IntKind.i64.wrap (Int.tdiv u 10) < 10 ^ (k - 1)) := by
 have hb : u ≤ 9223372036854775807 ∧ -9223372036854775808 ≤ u := by rw [IntKind.wrap_i64] at hw; omega
 have e : IntKind.i64.wrap (Int.tdiv u 10) = Int.tdiv u 10 := by
   rw [IntKind.wrap_i64]
   rcases Int.le_total 0 u with h | h
   · rw [Int.tdiv_eq_ediv_of_nonneg h]; omega
   · have h2 : Int.tdiv u 10 = -(Int.tdiv (-u) 10) := by rw [Int.neg_tdiv,Int.neg_neg]
     rw [h2,Int.tdiv_eq_ediv_of_nonneg (show 0 ≤ -u by omega)]; omega
 rw [e]
 rcases hi with ⟨_,rfl⟩ | ⟨h1,h2,h3⟩
 · refine ⟨by decide,by decide,?_⟩
   rw [show (10 : Int) ^ (25 - 1) = 1000000000000000000000000 from rfl]
   rcases Int.le_total 0 u with h | h
   · rw [Int.tdiv_eq_ediv_of_nonneg h]; omega
   · have h2 : Int.tdiv u 10 = -(Int.tdiv (-u) 10) := by rw [Int.neg_tdiv,Int.neg_neg]
     rw [h2,Int.tdiv_eq_ediv_of_nonneg (show 0 ≤ -u by omega)]; omega
 · have hu : 0 < u := by rcases hc with h | h; rw [h1] at h; cases h; exact h
   have hk : 1 ≤ k := by
     cases k with
     | zero => rw [Int.pow_zero] at h3; omega
     | succ k => omega
   obtain ⟨j,rfl⟩ : ∃ j,k = j + 1 := ⟨k - 1,by omega⟩
   refine ⟨hk,by omega,?_⟩
   rw [Nat.add_sub_cancel,Int.tdiv_eq_ediv_of_nonneg (by omega)]
   rw [Int.pow_succ] at h3
   generalize (10 : Int) ^ j = p at *
   omega
theorem dg3_go {k : Nat} {fb : Bool} {u : Int} {s R : ByteArray} (h : R = dg3F k fb u s) (hk : 1 ≤ k) (hc : fb = true ∨ 0 < u) : R = dg3F (k - 1) false (IntKind.i64.wrap (Int.tdiv u 10)) (dg3S u s) := by
 obtain ⟨j,rfl⟩ : ∃ j,k = j + 1 := ⟨k - 1,by omega⟩
 rw [h,dg3F,if_pos hc]; rfl
theorem dg3_end {k : Nat} {fb : Bool} {u : Int} {s R : ByteArray} (h : R = dg3F k fb u s) (hc : ¬ (fb = true ∨ 0 < u)) : R = s := by
 cases k with
 | zero => exact h
 | succ k => rw [h,dg3F,if_neg hc]
theorem dg3_go2 {k : Nat} {fb : Bool} {u : Int} {s R : ByteArray} (h : R = dg3F k fb u s) (hk : 1 ≤ k) (hc : fb = true ∨ 0 < u) (hd : Int.tmod u 10 < 0) : R = dg3F (k - 1) false (IntKind.i64.wrap (Int.tdiv u 10)) (strOfNums [IntKind.u8.wrap (48 + (0 - Int.tmod u 10))] ++ s) := by
 have e := dg3_go h hk hc
 unfold dg3S dA3 at e; rw [if_pos hd] at e; exact e
theorem dg3_go3 {k : Nat} {fb : Bool} {u : Int} {s R : ByteArray} (h : R = dg3F k fb u s) (hk : 1 ≤ k) (hc : fb = true ∨ 0 < u) (hd : ¬ Int.tmod u 10 < 0) : R = dg3F (k - 1) false (IntKind.i64.wrap (Int.tdiv u 10)) (strOfNums [IntKind.u8.wrap (48 + Int.tmod u 10)] ++ s) := by
 have e := dg3_go h hk hc
 unfold dg3S dA3 at e; rw [if_neg hd] at e; exact e
theorem dg3S_sz (u : Int) (s : ByteArray) : (dg3S u s).size = 1 + s.size := by unfold dg3S; rw [ByteArray.size_append,strOfNums_size]; rfl
theorem dg3_ct (n : Int) (ww0 : IntKind.i64.wrap n = n) : Tv Tryz.prog 117 #[.int .i64 n] [] [] (.string (dg3M n)) := by
 refine jenter (args := [.int .i64 n]) Tryz.func117 rfl rfl rfl fun w0 X => ?_
 refine jq (jr (ja Z (jn (jx (jq (jr (ja Z (jn (jx (jq (jr ?_)))))))))))
 refine jm Z (ja Z (jn (jx (jq (jq (jr (jm Z (js (jlss Z Z) (jn (jx ?_))))))))))
 refine jif Z (fun hc1 => ?_) (fun hc1 => ?_)
 refine jr (jm Z (js (jsubw Z Z) (ja Z (jn (jx (jq (jq (jr (ja Z (jn (jx ?_)))))))))))
 refine jb ?_
 refine jlp (u4 fun (k : Nat) (fb : Bool) (u : Int) (s : ByteArray) => ⟨dg3F 25 true (IntKind.i64.wrap (0 - n)) (⟨#[]⟩ : ByteArray) = dg3F k fb u s ∧ ((fb = true ∧ k = 25) ∨ (fb = false ∧ k ≤ 24 ∧ u < 10 ^ k)) ∧ IntKind.i64.wrap u = u ∧ s.size + k ≤ 25,[],[],[(0,.int .i64 n),(2,.string ((⟨#[]⟩ : ByteArray))),(3,.string s),(4,.int .i64 u),(5,.bool fb)],k⟩) (25,true,IntKind.i64.wrap (0 - n),(⟨#[]⟩ : ByteArray)) ⟨rfl,.inl ⟨rfl,rfl⟩,by dsimp only; first | exact ww0 | exact JE.wrap_wrap _ _,(show (⟨#[]⟩ : ByteArray).size + 25 ≤ 25 by decide)⟩ dn kn ⟨Z,Z,Z,Z,Z,trivial⟩ ?_
 rintro ⟨k,fb,u,s⟩; dsimp only [u4]; rintro ⟨hd,hi,hw,hz⟩
 refine jq (jq (jr (jm Z (jm Z (jg Z Z (.f _) (fun hg => jmv Z) (jg Z Z (.f _) (fun hg => jgtr (evg Z hg) Z) (js (jor Z Z) (jn (jx ?_)))))))))
 refine jif Z (fun hc2 => ?_) (fun hc2 => ?_)
 have hcc := hc2
 have h1k := (dg3_nx hw hi hcc).1
 have htm := tm10 u
 refine jsk (jx (jq (jb (jq (jr (jm Z (js (jrem Z Z (by decide)) (ja Z (jn (jx (jq ?_)))))))))))
 refine jq (jr (jm Z (js (jlss Z Z) (jn (jx ?_)))))
 refine jif Z (fun hc3 => ?_) (fun hc3 => ?_)
 have hda := hc3
 refine jr (jm Z (js (jsub Z Z (by omega)) (ja Z (jn (jx (jq (jr (jm Z (js (jadd Z Z (by omega)) (js (jco U3 U5 Z Z) (jlit (r := (rI .u8)) (l := [IntKind.u8.wrap (48 + (0 - (Int.tmod u 10)))]) U204 I5 (by decide) Z Z Z (lV Z Z (wI (wp (JE.wrap_wrap _ _))) ln) fun g26 => ?_)))))))))))
 refine js (jcbs U204 U5 U9 k0 Z) (jm Z (js (jaddS Z Z (by (try simp only [ByteArray.size_append,strOfNums_size,bsz1,List.length_cons,List.length_nil]); omega)) (ja Z (jn (jx (jr (jm Z (js (jquo Z Z (by decide)) (ja Z (jn (jbn ?_)))))))))))
 refine jx (jr (ja Z (jn ?_)))
 exact jag (k - 1,false,IntKind.i64.wrap (Int.tdiv u 10),(strOfNums ([IntKind.u8.wrap (48 + (0 - (Int.tmod u 10)))])) ++ s) ⟨by dsimp only; (first | exact dg3_go2 hd h1k hcc hda | exact dg3_go3 hd h1k hcc hda),.inr ⟨rfl,(dg3_nx hw hi hcc).2⟩,by dsimp only; exact JE.wrap_wrap _ _,by dsimp only; simp only [ByteArray.size_append,strOfNums_size,List.length_cons,List.length_nil]; omega⟩ dn kn ⟨Z,Z,Z,Z,Z,trivial⟩
 have hda := hc3
 refine jsk (jx (jq (jr (jm Z (js (jadd Z Z (by omega)) (js (jco U3 U5 Z Z) (jlit (r := (rI .u8)) (l := [IntKind.u8.wrap (48 + (Int.tmod u 10))]) U204 I5 (by decide) Z Z Z (lV Z Z (wI (wp (JE.wrap_wrap _ _))) ln) fun g26_1 => js (jcbs U204 U5 U9 k0 Z) (jm Z (js (jaddS Z Z (by (try simp only [ByteArray.size_append,strOfNums_size,bsz1,List.length_cons,List.length_nil]); omega)) (ja Z ?_))))))))))
 refine jn (jx (jr (jm Z (js (jquo Z Z (by decide)) (ja Z (jn (jbn (jx (jr (ja Z (jn ?_)))))))))))
 exact jag (k - 1,false,IntKind.i64.wrap (Int.tdiv u 10),(strOfNums ([IntKind.u8.wrap (48 + (Int.tmod u 10))])) ++ s) ⟨by dsimp only; (first | exact dg3_go2 hd h1k hcc hda | exact dg3_go3 hd h1k hcc hda),.inr ⟨rfl,(dg3_nx hw hi hcc).2⟩,by dsimp only; exact JE.wrap_wrap _ _,by dsimp only; simp only [ByteArray.size_append,strOfNums_size,List.length_cons,List.length_nil]; omega⟩ dn kn ⟨Z,Z,Z,Z,Z,trivial⟩
 have hcn := hc2
 refine jex (jtx (jtx (jbh (jx (jq (jq (jr (jm Z (js (jlss Z Z) (jn (jx ?_)))))))))))
 refine jif Z (fun hc4 => ?_) (fun hc4 => ?_)
 refine jr (jm Z (js (jaddS Z Z (by (try simp only [ByteArray.size_append,strOfNums_size,bsz1,List.length_cons,List.length_nil]); omega)) (ja Z (jn (jx (jq (jr (jm Z (js (jaddS Z Z (by (try simp only [ByteArray.size_append,strOfNums_size,bsz1,List.length_cons,List.length_nil]); omega)) (ja Z (jn ?_)))))))))))
 refine jx (jrt ?_)
 exact jrS Z Z (by have h7 := dg3_end hd (fun h => h.elim (fun h => by rw [hcn.1] at h; cases h) hcn.2); unfold dg3M; first | (exfalso; omega) | (simp only [if_pos (show n < 0 by omega),h7]) | (simp only [if_neg (show ¬ n < 0 by omega),h7]))
 refine jsk (jx (jq (jr (jm Z (js (jaddS Z Z (by (try simp only [ByteArray.size_append,strOfNums_size,bsz1,List.length_cons,List.length_nil]); omega)) (ja Z (jn (jx (jrt ?_)))))))))
 exact jrS Z Z (by have h7 := dg3_end hd (fun h => h.elim (fun h => by rw [hcn.1] at h; cases h) hcn.2); unfold dg3M; first | (exfalso; omega) | (simp only [if_pos (show n < 0 by omega),h7]) | (simp only [if_neg (show ¬ n < 0 by omega),h7]))
 refine jsk (jx (jq (jq (jr (ja Z (jn (jx (jb ?_))))))))
 refine jlp (u4 fun (k : Nat) (fb : Bool) (u : Int) (s : ByteArray) => ⟨dg3F 25 true n (⟨#[]⟩ : ByteArray) = dg3F k fb u s ∧ ((fb = true ∧ k = 25) ∨ (fb = false ∧ k ≤ 24 ∧ u < 10 ^ k)) ∧ IntKind.i64.wrap u = u ∧ s.size + k ≤ 25,[],[],[(0,.int .i64 n),(2,.string ((⟨#[]⟩ : ByteArray))),(3,.string s),(4,.int .i64 u),(5,.bool fb)],k⟩) (25,true,n,(⟨#[]⟩ : ByteArray)) ⟨rfl,.inl ⟨rfl,rfl⟩,by dsimp only; first | exact ww0 | exact JE.wrap_wrap _ _,(show (⟨#[]⟩ : ByteArray).size + 25 ≤ 25 by decide)⟩ dn kn ⟨Z,Z,Z,Z,Z,trivial⟩ ?_
 rintro ⟨k,fb,u,s⟩; dsimp only [u4]; rintro ⟨hd,hi,hw,hz⟩
 refine jq (jq (jr (jm Z (jm Z (jg Z Z (.f _) (fun hg => jmv Z) (jg Z Z (.f _) (fun hg => jgtr (evg Z hg) Z) (js (jor Z Z) (jn (jx ?_)))))))))
 refine jif Z (fun hc5 => ?_) (fun hc5 => ?_)
 have hcc := hc5
 have h1k := (dg3_nx hw hi hcc).1
 have htm := tm10 u
 refine jsk (jx (jq (jb (jq (jr (jm Z (js (jrem Z Z (by decide)) (ja Z (jn (jx (jq ?_)))))))))))
 refine jq (jr (jm Z (js (jlss Z Z) (jn (jx ?_)))))
 refine jif Z (fun hc6 => ?_) (fun hc6 => ?_)
 have hda := hc6
 refine jr (jm Z (js (jsub Z Z (by omega)) (ja Z (jn (jx (jq (jr (jm Z (js (jadd Z Z (by omega)) (js (jco U3 U5 Z Z) (jlit (r := (rI .u8)) (l := [IntKind.u8.wrap (48 + (0 - (Int.tmod u 10)))]) U204 I5 (by decide) Z Z Z (lV Z Z (wI (wp (JE.wrap_wrap _ _))) ln) fun g26_2 => ?_)))))))))))
 refine js (jcbs U204 U5 U9 k0 Z) (jm Z (js (jaddS Z Z (by (try simp only [ByteArray.size_append,strOfNums_size,bsz1,List.length_cons,List.length_nil]); omega)) (ja Z (jn (jx (jr (jm Z (js (jquo Z Z (by decide)) (ja Z (jn (jbn ?_)))))))))))
 refine jx (jr (ja Z (jn ?_)))
 exact jag (k - 1,false,IntKind.i64.wrap (Int.tdiv u 10),(strOfNums ([IntKind.u8.wrap (48 + (0 - (Int.tmod u 10)))])) ++ s) ⟨by dsimp only; (first | exact dg3_go2 hd h1k hcc hda | exact dg3_go3 hd h1k hcc hda),.inr ⟨rfl,(dg3_nx hw hi hcc).2⟩,by dsimp only; exact JE.wrap_wrap _ _,by dsimp only; simp only [ByteArray.size_append,strOfNums_size,List.length_cons,List.length_nil]; omega⟩ dn kn ⟨Z,Z,Z,Z,Z,trivial⟩
 have hda := hc6
 refine jsk (jx (jq (jr (jm Z (js (jadd Z Z (by omega)) (js (jco U3 U5 Z Z) (jlit (r := (rI .u8)) (l := [IntKind.u8.wrap (48 + (Int.tmod u 10))]) U204 I5 (by decide) Z Z Z (lV Z Z (wI (wp (JE.wrap_wrap _ _))) ln) fun g26_3 => js (jcbs U204 U5 U9 k0 Z) (jm Z (js (jaddS Z Z (by (try simp only [ByteArray.size_append,strOfNums_size,bsz1,List.length_cons,List.length_nil]); omega)) (ja Z ?_))))))))))
 refine jn (jx (jr (jm Z (js (jquo Z Z (by decide)) (ja Z (jn (jbn (jx (jr (ja Z (jn ?_)))))))))))
 exact jag (k - 1,false,IntKind.i64.wrap (Int.tdiv u 10),(strOfNums ([IntKind.u8.wrap (48 + (Int.tmod u 10))])) ++ s) ⟨by dsimp only; (first | exact dg3_go2 hd h1k hcc hda | exact dg3_go3 hd h1k hcc hda),.inr ⟨rfl,(dg3_nx hw hi hcc).2⟩,by dsimp only; exact JE.wrap_wrap _ _,by dsimp only; simp only [ByteArray.size_append,strOfNums_size,List.length_cons,List.length_nil]; omega⟩ dn kn ⟨Z,Z,Z,Z,Z,trivial⟩
 have hcn := hc5
 refine jex (jtx (jtx (jbh (jx (jq (jq (jr (jm Z (js (jlss Z Z) (jn (jx ?_)))))))))))
 refine jif Z (fun hc7 => ?_) (fun hc7 => ?_)
 refine jr (jm Z (js (jaddS Z Z (by (try simp only [ByteArray.size_append,strOfNums_size,bsz1,List.length_cons,List.length_nil]); omega)) (ja Z (jn (jx (jq (jr (jm Z (js (jaddS Z Z (by (try simp only [ByteArray.size_append,strOfNums_size,bsz1,List.length_cons,List.length_nil]); omega)) (ja Z (jn ?_)))))))))))
 refine jx (jrt ?_)
 exact jrS Z Z (by have h7 := dg3_end hd (fun h => h.elim (fun h => by rw [hcn.1] at h; cases h) hcn.2); unfold dg3M; first | (exfalso; omega) | (simp only [if_pos (show n < 0 by omega),h7]) | (simp only [if_neg (show ¬ n < 0 by omega),h7]))
 refine jsk (jx (jq (jr (jm Z (js (jaddS Z Z (by (try simp only [ByteArray.size_append,strOfNums_size,bsz1,List.length_cons,List.length_nil]); omega)) (ja Z (jn (jx (jrt ?_)))))))))
 exact jrS Z Z (by have h7 := dg3_end hd (fun h => h.elim (fun h => by rw [hcn.1] at h; cases h) hcn.2); unfold dg3M; first | (exfalso; omega) | (simp only [if_pos (show n < 0 by omega),h7]) | (simp only [if_neg (show ¬ n < 0 by omega),h7]))
theorem E117 : Ent Tryz.prog 117 := ⟨_,Tryz.func117,by kernel_rfl,by kernel_rfl⟩
theorem dg3F_sz : ∀ (k : Nat) (fb : Bool) (u : Int) (s : ByteArray),(dg3F k fb u s).size ≤ k + s.size
 | 0,_,_,s => by show s.size ≤ 0 + s.size; omega
 | k + 1,fb,u,s => by
   rw [dg3F]; split
   · have := dg3F_sz k false (IntKind.i64.wrap (Int.tdiv u 10)) (dg3S u s)
     rw [dg3S_sz] at this; omega
   · omega
theorem dg3M_sz (n : Int) : (dg3M n).size ≤ 27 := by
 have h : ∀ u,(dg3F 25 true u (⟨#[]⟩ : ByteArray)).size ≤ 25 + (⟨#[]⟩ : ByteArray).size := fun u => dg3F_sz 25 true u _
 have e : (⟨#[]⟩ : ByteArray).size = 0 := rfl
 unfold dg3M
 rw [ByteArray.size_append,bsz1]
 have h2 := h (IntKind.i64.wrap (0 - n))
 have h3 := h n
 split
 · rw [ByteArray.size_append,bsz1]; omega
 · omega
def rT3 (s : ByteArray) (x : Int) : ByteArray := s ++ dg3M x
def rowT3 (l : List Int) : ByteArray := l.foldl rT3 (⟨#[91]⟩ : ByteArray) ++ (⟨#[93]⟩ : ByteArray)
theorem fold3_nx {α : Type} [Inhabited α] {f : ByteArray → α → ByteArray} {l : List α} {k : Nat} (h : k < l.length) (s0 : ByteArray) : (l.take (k + 1)).foldl f s0 = f ((l.take k).foldl f s0) (ix l k) := by rw [take_ix h,List.foldl_append]; rfl
theorem fold3_all {α : Type} {f : ByteArray → α → ByteArray} {l : List α} {k : Nat} (h : l.length ≤ k) (s0 : ByteArray) : (l.take k).foldl f s0 = l.foldl f s0 := by rw [List.take_of_length_le h]
theorem rowT3_sz (l : List Int) : (rowT3 l).size ≤ 27 * l.length + 2 := by
 have h : ∀ (l : List Int) (s : ByteArray),(l.foldl rT3 s).size ≤ s.size + 27 * l.length := by
   intro l
   induction l with
   | nil => intro s; exact Nat.le_refl _
   | cons x l ih =>
     intro s
     have h1 := ih (rT3 s x)
     have h2 := dg3M_sz x
     unfold rT3 at h1
     rw [ByteArray.size_append] at h1
     rw [List.foldl_cons,List.length_cons]; unfold rT3; omega
 have h1 := h l (⟨#[91]⟩ : ByteArray)
 rw [bsz1] at h1
 unfold rowT3; rw [ByteArray.size_append,bsz1]; omega
attribute [local irreducible] dg3M
theorem bsz4 (a b c d : UInt8) : (⟨#[a,b,c,d]⟩ : ByteArray).size = 4 := rfl
theorem row3_ct {a0 : Value} {l : List Int} : Tv Tryz.prog 118 #[a0] [dv (rL (rI .i64)) a0 l] [] (.string (rowT3 l)) := by
 refine jenter (args := [a0]) Tryz.func118 rfl rfl rfl fun w0 X => ?_
 refine jq (jr (ja Z (jn (jx (jq (jr (ja Z (jn (jx (jq (jq ?_)))))))))))
 refine jr (ja Z (jn (jx (jb ?_))))
 refine jlp (u2 fun (k : Nat) (s : ByteArray) => ⟨k ≤ l.length ∧ s = (l.take k).foldl rT3 (⟨#[91]⟩ : ByteArray) ∧ s.size ≤ 27 * k + 1,[dv (rL (rI .i64)) a0 l],[],[(0,a0),(2,.string ((⟨#[]⟩ : ByteArray))),(3,.string s),(4,.int .i64 (↑k))],l.length - k⟩) (0,(⟨#[91]⟩ : ByteArray)) ⟨by dsimp only; omega,rfl,by dsimp only; rw [bsz1]; omega⟩ (dc d0 dn) kn ⟨Z,Z,Z,eqI (by omega),trivial⟩ ?_
 rintro ⟨k,s⟩; dsimp only [u2]; rintro ⟨hk,hs,hz⟩
 refine jq (jq (jr (jm Z (jm Z (jdq d0 fun q1 w1 => js (jln U22 d0 Z) (js (jlss Z Z) (jn (jx ?_))))))))
 refine jif Z (fun hc1 => ?_) (fun hc1 => ?_)
 have h9 := dg3M_sz (ix l k)
 refine jsk (jx (jq (jb (jr (jm Z (jm Z (jm Z (js (jix U22 Z3 d0 Z Z Z (by omega)) (js (jlI (dix d0 k (by omega)) O3 Z) (jwr (wad (dix d0 k (by omega))) fun w2 => jcv E117 Z Z (dg3_ct (ix l k) w2) dn kn ?_))))))))))
 refine js (jaddS Z Z (by (try simp only [ByteArray.size_append,bsz1,bsz4]); omega)) (ja Z (jn (jbn (jx (jr (jm Z (js (jadd Z Z (by omega)) (ja Z (jn ?_)))))))))
 exact jag (k + 1,s ++ (dg3M (ix l k))) ⟨by dsimp only; omega,by dsimp only; rw [fold3_nx (by omega),hs]; rfl,by dsimp only; rw [ByteArray.size_append]; omega⟩ (dc d0 dn) kn ⟨Z,Z,Z,eqI (by omega),trivial⟩
 refine jex (jtx (jtx (jbh (jx (jq (jr (jm Z (js (jaddS Z Z (by (try simp only [ByteArray.size_append,bsz1,bsz4]); omega)) (ja Z (jn (jx ?_)))))))))))
 refine jrt ?_
 exact jrS Z Z (by unfold rowT3; rw [hs,fold3_all (by omega)])
end Go.Proofs.YtmfkkodnghambaaGreat
namespace Go.Proofs.YtmfkkodnghambaaGreat
open Go.JE
theorem E118 : Ent Tryz.prog 118 := ⟨_,Tryz.func118,by kernel_rfl,by kernel_rfl⟩
def zT3 (s : ByteArray) (z : D.In) : ByteArray := s ++ dg3M z.From ++ (⟨#[58]⟩ : ByteArray) ++ dg3M z.Val
def phT3 (s : ByteArray) (p : D.Phi) : ByteArray := p.In.foldl zT3 (s ++ (⟨#[112,104,105,32]⟩ : ByteArray) ++ dg3M p.Dst)
def iT3 (s : ByteArray) (i : D.Ins) : ByteArray := s ++ (⟨#[59]⟩ : ByteArray) ++ dg3M i.Op ++ dg3M i.Dst ++ dg3M i.Two ++ rowT3 i.Args ++ dg3M i.Imm
def blT3 (s : ByteArray) (x : D.Block) : ByteArray := x.Ins.foldl iT3 (x.Phis.foldl phT3 (s ++ (⟨#[10]⟩ : ByteArray))) ++ (⟨#[124]⟩ : ByteArray) ++ dg3M x.Term.Kind ++ rowT3 x.Term.Args ++ rowT3 x.Term.To ++ dg3M x.Term.Imm
def funT3 (m : D.Func) : ByteArray := m.Blocks.foldl blT3 (dg3M m.Params)
def SmallD (m : D.Func) : Prop := ∀ x ∈ m.Blocks,x.Phis.length ≤ 8000 ∧ x.Ins.length ≤ 8000
attribute [local irreducible] dg3M rowT3
set_option maxRecDepth 8000 in
set_option maxHeartbeats 1600000 in
theorem print3_ct {a0 : Value} {m : D.Func} (hS : SmallD m) (hB : m.Blocks.length ≤ 1000) : Tv Tryz.prog 61 #[vFunc m a0] [da rFunc (vFunc m a0) m] [] (.string (funT3 m)) := by
 refine jenter (args := [vFunc m a0]) Tryz.func61 rfl rfl rfl fun w0 X => ?_
 have hd0 := dg3M_sz m.Params
 refine jq (jr (jbox Z Z fun g1 => ja Z (jn (jx (jq (jr (js (jf F49_0 Z) (js (jl k0 O3 Z Z) (jwr (rFunc.W_Params d0) fun w1 => jcv E117 Z Z (dg3_ct m.Params w1) dn kn ?_)))))))))
 refine ja Z (jn (jx (jq (jq (jr (ja Z (jn (jx (jb ?_)))))))))
 refine jlp (u2 fun (b : Nat) (s : ByteArray) => ⟨b ≤ m.Blocks.length ∧ s = (m.Blocks.take b).foldl blT3 (dg3M m.Params) ∧ s.size ≤ 27 + b * 1000000000000000,[da rFunc (vFunc m a0) m],[bx g1 49 [.int .i64 m.Params,a0]],[(1,.pointer (some ⟨g1,0,none⟩)),(2,.string ((⟨#[]⟩ : ByteArray))),(3,.string s),(4,.int .i64 (↑b))],m.Blocks.length - b⟩) (0,dg3M m.Params) ⟨by dsimp only; omega,rfl,by dsimp only; omega⟩ (dc d0 dn) (kc k0 kn) ⟨Z,Z,Z,eqI (by omega),trivial⟩ ?_
 rintro ⟨b,s⟩; dsimp only [u2]; rintro ⟨hb,hs,hz⟩
 refine jq (jq (jr (jm Z (js (jf F49_1 Z) (js (jl k0 O47 Z Z) (jdq (rFunc.cB d0) fun q2 w2 => js (jln U47 (rFunc.cB d0) Z) (js (jlss Z Z) (jn (jx ?_)))))))))
 refine jif Z (fun hc1 => ?_) (fun hc1 => ?_)
 have hsx := hS _ (ix_mem (l := m.Blocks) (i := b) (by omega))
 have hd4 := dg3M_sz (ix m.Blocks b).Term.Kind
 have hd5 := dg3M_sz (ix m.Blocks b).Term.Imm
 have hr1 := rowT3_sz (ix m.Blocks b).Term.Args
 have hr2 := rowT3_sz (ix m.Blocks b).Term.To
 refine jsk (jx (jq (jb (jq (jr (js (jf F49_1 Z) (js (jl k0 O47 Z Z) (jm Z (js (jix U47 Z62 (rFunc.cB d0) Z Z Z (by omega)) (jA4 sBlock (jlA (dix (rFunc.cB d0) b (by omega)) A62 Z62 Z) fun c23a c23b c23c c23d => jalc J62 Z fun g5 => ?_))))))))))
 refine jdq (rBlock.cP d0) fun q4 w4 => jdq (rBlock.cI d0) fun q5 w5 => jdq (rBlock.c_Term_Args d0) fun q6 w6 => jdq (rBlock.c_Term_To d0) fun q7 w7 => jsta k0 Z62 Z Z Z ⟨w4.one,w5.one,Z,w6.one,w7.one,Z,trivial⟩ (saf Z) (jn (jx (jq (jr (jm Z (js (jaddS Z Z (by (try simp only [ByteArray.size_append,bsz1,bsz4]); omega)) (ja Z ?_)))))))
 refine jn (jx (jq (jq (jr (ja Z (jn (jx (jb ?_))))))))
 refine jlp (u2 fun (i : Nat) (s2 : ByteArray) => ⟨i ≤ (ix m.Blocks b).Phis.length ∧ s2 = ((ix m.Blocks b).Phis.take i).foldl phT3 (s ++ (⟨#[10]⟩ : ByteArray)) ∧ s2.size ≤ s.size + 1 + i * 59055800351,[da rBlock (vBlock (ix m.Blocks b) (c23a,c23b,c23c,c23d)) (ix m.Blocks b),da rFunc (vFunc m a0) m],[bx g5 62 [c23a,c23b,.int .i64 (((ix m.Blocks b).Term).Kind),c23c,c23d,.int .i32 (((ix m.Blocks b).Term).Imm)],bx g1 49 [.int .i64 m.Params,a0]],[(1,.pointer (some ⟨g1,0,none⟩)),(2,.string ((⟨#[]⟩ : ByteArray))),(3,.string s2),(4,.int .i64 (↑b)),(5,.pointer (some ⟨g5,0,none⟩)),(6,.int .i64 (↑i))],(ix m.Blocks b).Phis.length - i⟩) (0,s ++ (⟨#[10]⟩ : ByteArray)) ⟨by dsimp only; omega,rfl,by dsimp only; rw [ByteArray.size_append,bsz1]; omega⟩ (dc d0 (dc d1 dn)) (kd kn) ⟨Z,Z,Z,Z,Z,eqI (by omega),trivial⟩ ?_
 rintro ⟨i,s2⟩; dsimp only [u2]; rintro ⟨hi,hs2,hz2⟩
 refine jq (jq (jr (jm Z (js (jf F62_0 Z) (js (jl k0 O57 Z Z) (js (jln U57 (rBlock.cP d0) Z) (js (jlss Z Z) (jn (jx ?_)))))))))
 refine jif Z (fun hc2 => ?_) (fun hc2 => ?_)
 have hd6 := dg3M_sz (ix (ix m.Blocks b).Phis i).Dst
 refine jsk (jx (jq (jb (jq (jr (jm Z (js (jaddS Z Z (by (try simp only [ByteArray.size_append,bsz1,bsz4]); omega)) (js (jf F62_0 Z) (js (jl k0 O57 Z Z) (jm Z (js (jix U57 Z65 (rBlock.cP d0) Z Z Z (by omega)) ?_)))))))))))
 refine js (jf F65_0 Z) (js (jlI (rPhi.A_Dst (dix (rBlock.cP d0) i (by omega))) O3 Z) (jwr (wad (rPhi.A_Dst (dix (rBlock.cP d0) i (by omega)))) fun w8 => jcv E117 Z Z (dg3_ct ((ix ((ix m.Blocks b).Phis) i).Dst) w8) dn kn (js (jaddS Z Z (by (try simp only [ByteArray.size_append,bsz1,bsz4]); omega)) (ja Z (jn (jx (jq (jr (ja Z (jn ?_))))))))))
 refine jx (jb ?_)
 refine jlp (u2 fun (k : Nat) (s3 : ByteArray) => ⟨k ≤ (ix (ix m.Blocks b).Phis i).In.length ∧ s3 = ((ix (ix m.Blocks b).Phis i).In.take k).foldl zT3 (s2 ++ (⟨#[112,104,105,32]⟩ : ByteArray) ++ dg3M (ix (ix m.Blocks b).Phis i).Dst) ∧ s3.size ≤ s2.size + 31 + k * 55,[da rBlock (vBlock (ix m.Blocks b) (c23a,c23b,c23c,c23d)) (ix m.Blocks b),da rFunc (vFunc m a0) m],[bx g5 62 [c23a,c23b,.int .i64 (((ix m.Blocks b).Term).Kind),c23c,c23d,.int .i32 (((ix m.Blocks b).Term).Imm)],bx g1 49 [.int .i64 m.Params,a0]],[(1,.pointer (some ⟨g1,0,none⟩)),(2,.string ((⟨#[]⟩ : ByteArray))),(3,.string s3),(4,.int .i64 (↑b)),(5,.pointer (some ⟨g5,0,none⟩)),(6,.int .i64 (↑i)),(7,.int .i64 (↑k))],(ix (ix m.Blocks b).Phis i).In.length - k⟩) (0,(s2 ++ (⟨#[112,104,105,32]⟩ : ByteArray)) ++ (dg3M ((ix ((ix m.Blocks b).Phis) i).Dst))) ⟨by dsimp only; omega,rfl,by dsimp only; simp only [ByteArray.size_append,bsz4]; omega⟩ (dc d0 (dc d1 dn)) (kd kn) ⟨Z,Z,Z,Z,Z,Z,eqI (by omega),trivial⟩ ?_
 rintro ⟨k,s3⟩; dsimp only [u2]; rintro ⟨hk,hs3,hz3⟩
 refine jq (jq (jr (jm Z (js (jf F62_0 Z) (js (jl k0 O57 Z Z) (jm Z (js (jix U57 Z65 (rBlock.cP d0) Z Z Z (by omega)) (js (jf F65_1 Z) (jev (jlV (rPhi.A_In (dix (rBlock.cP d0) i (by omega))) O63 Z Z) fun v49 q9 w9 => js (jln U63 d0 Z) (js (jlss Z Z) ?_))))))))))
 refine jn (jx ?_)
 refine jif Z (fun hc3 => ?_) (fun hc3 => ?_)
 have hd7 := dg3M_sz (ix (ix (ix m.Blocks b).Phis i).In k).From
 have hd8 := dg3M_sz (ix (ix (ix m.Blocks b).Phis i).In k).Val
 refine jsk (jx (jq (jb (jany false (.a 0 (.a 1 (.a 2 (.a 3 (.a 4 (.a 5 (.a 6 (.a 7 (.a 8 (.a 9 (.a 10 (.a 14 (.a 15 (.a 16 (.a 17 (.a 18 (.a 19 (.a 20 (.a 21 (.a 22 (.a 23 (.o 11 (.a 12 (.a 13 (.o 24 (.a 25 (.a 26 .e))))))))))))))))))))))))))) Mixed (by kernel_rfl) (kc k0 kn) fun F11 => jy Z (jmv Z) (jy Z (jf F62_0 Z) (jy Z (jl k0 O57 Z Z) (jy Z (jmv Z) (jy Z (jix U57 Z65 (rBlock.cP d1) Z Z Z (by omega)) (jy Z (jf F65_1 Z) (jye (q := fun v => dv (rL rIn) v ((ix ((ix m.Blocks b).Phis) i).In)) Z (xlV (rPhi.A_In (dix (rBlock.cP d1) i (by omega))) O63 Z Z) fun v60 => ?_))))))))))
 refine jy Z (jmv Z) (adq d0 fun q13 w13 => jy Z (jix U63 Z111 d0 Z Z Z (by omega)) (jy Z (jf F111_0 Z) (jy Z (jlI (rIn.A_From (dix d0 k (by omega))) O3 Z) (jy Z (jf F62_0 Z) (jy Z (jl k0 O57 Z Z) (jy Z (jmv Z) (jy Z (jix U57 Z65 (rBlock.cP d2) Z Z Z (by omega)) (jy Z (jf F65_1 Z) (jye (q := fun v => dv (rL rIn) v ((ix ((ix m.Blocks b).Phis) i).In)) Z (xlV (rPhi.A_In (dix (rBlock.cP d2) i (by omega))) O63 Z Z) fun v73 => jy Z (jmv Z) ?_)))))))))
 refine adq d0 fun q15 w15 => jy Z (jix U63 Z111 d0 Z Z Z (by omega)) (jy Z (jf F111_1 Z) (jy Z (jlI (rIn.A_Val (dix d0 k (by omega))) O3 Z) (jyo Z (jwr (wad (rIn.A_From (dix d2 k (by omega)))) fun w17 => jcv E117 Z Z (dg3_ct ((ix ((ix ((ix m.Blocks b).Phis) i).In) k).From) w17) dn kn (jyn d0 (kc k0 kn) (jy Z (jaddS Z Z (by (try simp only [ByteArray.size_append,bsz1,bsz4]); omega)) (jy Z (jaddS Z Z (by (try simp only [ByteArray.size_append,bsz1,bsz4]); omega)) (jyo Z (jwr (wad (rIn.A_Val (dix d2 k (by omega)))) fun w19 => ?_)))))))))
 refine jcv E117 Z Z (dg3_ct ((ix ((ix ((ix m.Blocks b).Phis) i).In) k).Val) w19) dn kn (jyn d0 (kc k0 kn) (jy Z (jaddS Z Z (by (try simp only [ByteArray.size_append,bsz1,bsz4]); omega)) (jy Z (jas Z) (jyd (jbn (jx (jr (jm Z (js (jadd Z Z (by omega)) (ja Z (jn ?_)))))))))))
 exact jag (k + 1,((s3 ++ (dg3M ((ix ((ix ((ix m.Blocks b).Phis) i).In) k).From))) ++ (⟨#[58]⟩ : ByteArray)) ++ (dg3M ((ix ((ix ((ix m.Blocks b).Phis) i).In) k).Val))) ⟨by dsimp only; omega,by dsimp only; rw [fold3_nx (by omega),← hs3]; rfl,by dsimp only; simp only [ByteArray.size_append,bsz1]; omega⟩ (dc d5 (dc d6 dn)) (kd kn) ⟨Z,Z,Z,Z,Z,Z,eqI (by omega),trivial⟩
 have h3 := hs3.trans (fold3_all (by omega) _)
 refine jex (jtx (jtx (jbh (jbn (jx (jr (jm Z (js (jadd Z Z (by omega)) (ja Z (jn ?_))))))))))
 exact jag (i + 1,s3) ⟨by dsimp only; omega,by dsimp only; rw [fold3_nx (by omega),← hs2,h3]; rfl,by dsimp only; omega⟩ (dc d1 (dc d2 dn)) (kd kn) ⟨Z,Z,Z,Z,Z,eqI (by omega),trivial⟩
 have h2 := hs2.trans (fold3_all (by omega) _)
 refine jex (jtx (jtx (jbh (jx (jq (jq (jr (ja Z (jn (jx (jb ?_)))))))))))
 refine jlp (u2 fun (j : Nat) (s4 : ByteArray) => ⟨j ≤ (ix m.Blocks b).Ins.length ∧ s4 = ((ix m.Blocks b).Ins.take j).foldl iT3 s2 ∧ s4.size ≤ s2.size + j * 28991029359,[da rBlock (vBlock (ix m.Blocks b) (c23a,c23b,c23c,c23d)) (ix m.Blocks b),da rFunc (vFunc m a0) m],[bx g5 62 [c23a,c23b,.int .i64 (((ix m.Blocks b).Term).Kind),c23c,c23d,.int .i32 (((ix m.Blocks b).Term).Imm)],bx g1 49 [.int .i64 m.Params,a0]],[(1,.pointer (some ⟨g1,0,none⟩)),(2,.string ((⟨#[]⟩ : ByteArray))),(3,.string s4),(4,.int .i64 (↑b)),(5,.pointer (some ⟨g5,0,none⟩)),(8,.int .i64 (↑j))],(ix m.Blocks b).Ins.length - j⟩) (0,s2) ⟨by dsimp only; omega,rfl,by dsimp only; omega⟩ (dc d0 (dc d1 dn)) (kd kn) ⟨Z,Z,Z,Z,Z,eqI (by omega),trivial⟩ ?_
 rintro ⟨j,s4⟩; dsimp only [u2]; rintro ⟨hj,hs4,hz4⟩
 refine jq (jq (jr (jm Z (js (jf F62_1 Z) (js (jl k0 O58 Z Z) (js (jln U58 (rBlock.cI d0) Z) (js (jlss Z Z) (jn (jx ?_)))))))))
 refine jif Z (fun hc4 => ?_) (fun hc4 => ?_)
 have haOp := dg3M_sz (ix (ix m.Blocks b).Ins j).Op
 have haDst := dg3M_sz (ix (ix m.Blocks b).Ins j).Dst
 have haTwo := dg3M_sz (ix (ix m.Blocks b).Ins j).Two
 have haImm := dg3M_sz (ix (ix m.Blocks b).Ins j).Imm
 have ha9 := rowT3_sz (ix (ix m.Blocks b).Ins j).Args
 refine jsk (jx (jq (jb (jany false (.a 0 (.a 1 (.a 2 (.a 3 (.a 4 (.a 5 (.a 6 (.a 7 (.a 10 (.a 11 (.a 12 (.a 13 (.a 14 (.a 15 (.a 18 (.a 19 (.a 20 (.a 21 (.a 22 (.a 23 (.a 26 (.a 27 (.a 28 (.a 29 (.a 30 (.a 31 (.a 34 (.a 35 (.a 36 (.a 37 (.a 38 (.a 39 (.a 40 (.o 8 (.a 9 (.o 16 (.a 17 (.o 24 (.a 25 (.o 32 (.a 33 (.o 41 (.a 42 (.a 43 .e)))))))))))))))))))))))))))))))))))))))))))) Mixed (by kernel_rfl) (kc k0 kn) fun F20 => jy Z (jmv Z) (jy Z (jaddS Z Z (by (try simp only [ByteArray.size_append,bsz1,bsz4]); omega)) (jy Z (jf F62_1 Z) (jy Z (jl k0 O58 Z Z) (jy Z (jmv Z) (jy Z (jix U58 Z67 (rBlock.cI d0) Z Z Z (by omega)) (jy Z (jf F67_0 Z) ?_))))))))))
 refine jy Z (jlI (rIns.A_Op (dix (rBlock.cI d0) j (by omega))) O3 Z) (jy Z (jf F62_1 Z) (jy Z (jl k0 O58 Z Z) (jy Z (jmv Z) (jy Z (jix U58 Z67 (rBlock.cI d0) Z Z Z (by omega)) (jy Z (jf F67_1 Z) (jy Z (jlI (rIns.A_Dst (dix (rBlock.cI d0) j (by omega))) O3 Z) (jy Z (jf F62_1 Z) (jy Z (jl k0 O58 Z Z) (jy Z (jmv Z) (jy Z (jix U58 Z67 (rBlock.cI d0) Z Z Z (by omega)) (jy Z (jf F67_2 Z) ?_)))))))))))
 refine jy Z (jlI (rIns.A_Two (dix (rBlock.cI d0) j (by omega))) O3 Z) (jy Z (jf F62_1 Z) (jy Z (jl k0 O58 Z Z) (jy Z (jmv Z) (jy Z (jix U58 Z67 (rBlock.cI d0) Z Z Z (by omega)) (jy Z (jf F67_3 Z) (jye (q := fun v => dv (rL (rI .i64)) v ((ix ((ix m.Blocks b).Ins) j).Args)) Z (xlV (rIns.A_Args (dix (rBlock.cI d0) j (by omega))) O22 Z Z) fun v118 => adq d0 fun q22 w22 => jy Z (jf F62_1 Z) (jy Z (jl k0 O58 Z Z) (jy Z (jmv Z) (jy Z (jix U58 Z67 (rBlock.cI d1) Z Z Z (by omega)) ?_)))))))))
 refine jy Z (jf F67_4 Z) (jy Z (jlI (rIns.A_Imm (dix (rBlock.cI d1) j (by omega))) O21 Z) (awr (wad (rIns.A_Imm (dix (rBlock.cI d1) j (by omega)))) fun w23 => jy Z (jco U21 U3 Z (up_i32_i64 w23)) (jyo Z (jwr (wad (rIns.A_Op (dix (rBlock.cI d2) j (by omega)))) fun w25 => jcv E117 Z Z (dg3_ct ((ix ((ix m.Blocks b).Ins) j).Op) w25) dn kn (jyn d0 (kc k0 kn) (jy Z (jaddS Z Z (by (try simp only [ByteArray.size_append,bsz1,bsz4]); omega)) (jyo Z (jwr (wad (rIns.A_Dst (dix (rBlock.cI d3) j (by omega)))) fun w27 => jcv E117 Z Z (dg3_ct ((ix ((ix m.Blocks b).Ins) j).Dst) w27) dn kn ?_))))))))
 refine jyn d0 (kc k0 kn) (jy Z (jaddS Z Z (by (try simp only [ByteArray.size_append,bsz1,bsz4]); omega)) (jyo Z (jwr (wad (rIns.A_Two (dix (rBlock.cI d4) j (by omega)))) fun w29 => jcv E117 Z Z (dg3_ct ((ix ((ix m.Blocks b).Ins) j).Two) w29) dn kn (jyn d0 (kc k0 kn) (jy Z (jaddS Z Z (by (try simp only [ByteArray.size_append,bsz1,bsz4]); omega)) (jyo Z (jcv E118 Z Z row3_ct (dc d4 dn) kn (jyn d0 (kc k0 kn) (jy Z (jaddS Z Z (by (try simp only [ByteArray.size_append,bsz1,bsz4]); omega)) (jyo Z ?_))))))))))
 refine jcv E117 Z Z (dg3_ct ((ix ((ix m.Blocks b).Ins) j).Imm) (up_i32_i64 w23)) dn kn (jyn d0 (kc k0 kn) (jy Z (jaddS Z Z (by (try simp only [ByteArray.size_append,bsz1,bsz4]); omega)) (jy Z (jas Z) (jyd (jbn (jx (jr (jm Z (js (jadd Z Z (by omega)) (ja Z (jn ?_)))))))))))
 exact jag (j + 1,(((((s4 ++ (⟨#[59]⟩ : ByteArray)) ++ (dg3M ((ix ((ix m.Blocks b).Ins) j).Op))) ++ (dg3M ((ix ((ix m.Blocks b).Ins) j).Dst))) ++ (dg3M ((ix ((ix m.Blocks b).Ins) j).Two))) ++ (rowT3 ((ix ((ix m.Blocks b).Ins) j).Args))) ++ (dg3M ((ix ((ix m.Blocks b).Ins) j).Imm))) ⟨by dsimp only; omega,by dsimp only; rw [fold3_nx (by omega),← hs4]; rfl,by dsimp only; simp only [ByteArray.size_append,bsz1]; omega⟩ (dc d6 (dc d7 dn)) (kd kn) ⟨Z,Z,Z,Z,Z,eqI (by omega),trivial⟩
 have h4 := hs4.trans (fold3_all (by omega) _)
 refine jex (jtx (jtx (jbh (jx (jany false (.a 0 (.a 1 (.a 2 (.a 3 (.a 4 (.a 7 (.a 8 (.a 9 (.a 12 (.a 13 (.a 14 (.a 17 (.a 18 (.a 19 (.a 20 (.o 5 (.a 6 (.o 10 (.a 11 (.o 15 (.a 16 (.o 21 (.a 22 (.a 23 .e)))))))))))))))))))))))) Mixed (by kernel_rfl) (kc k0 kn) fun F32 => jy Z (jmv Z) (jy Z (jaddS Z Z (by (try simp only [ByteArray.size_append,bsz1,bsz4]); omega)) (jy Z (jf F62_2 Z) (jy Z (jf F60_0 Z) (jy Z (jl k0 O3 Z Z) (jy Z (jf F62_2 Z) ?_))))))))))
 refine jy Z (jf F60_1 Z) (jy Z (jl k0 O22 Z Z) (jy Z (jf F62_2 Z) (jy Z (jf F60_2 Z) (jy Z (jl k0 O22 Z Z) (jy Z (jf F62_2 Z) (jy Z (jf F60_3 Z) (jy Z (jl k0 O21 Z Z) (awr (rBlock.W_Term_Imm d0) fun w33 => jy Z (jco U21 U3 Z (up_i32_i64 w33)) (jyo Z (jwr (rBlock.W_Term_Kind d1) fun w35 => ?_))))))))))
 refine jcv E117 Z Z (dg3_ct (((ix m.Blocks b).Term).Kind) w35) dn kn (jyn d0 (kc k0 kn) (jy Z (jaddS Z Z (by (try simp only [ByteArray.size_append,bsz1,bsz4]); omega)) (jyo Z (jcv E118 Z Z row3_ct (dc (rBlock.c_Term_Args d2) dn) kn (jyn d0 (kc k0 kn) (jy Z (jaddS Z Z (by (try simp only [ByteArray.size_append,bsz1,bsz4]); omega)) (jyo Z (jcv E118 Z Z row3_ct (dc (rBlock.c_Term_To d3) dn) kn (jyn d0 (kc k0 kn) (jy Z (jaddS Z Z (by (try simp only [ByteArray.size_append,bsz1,bsz4]); omega)) (jyo Z ?_)))))))))))
 refine jcv E117 Z Z (dg3_ct (((ix m.Blocks b).Term).Imm) (up_i32_i64 w33)) dn kn (jyn d0 (kc k0 kn) (jy Z (jaddS Z Z (by (try simp only [ByteArray.size_append,bsz1,bsz4]); omega)) (jy Z (jas Z) (jyd (jbn (jx (jr (jm Z (js (jadd Z Z (by omega)) (ja Z (jn ?_)))))))))))
 exact jag (b + 1,((((s4 ++ (⟨#[124]⟩ : ByteArray)) ++ (dg3M (((ix m.Blocks b).Term).Kind))) ++ (rowT3 (((ix m.Blocks b).Term).Args))) ++ (rowT3 (((ix m.Blocks b).Term).To))) ++ (dg3M (((ix m.Blocks b).Term).Imm))) ⟨by dsimp only; omega,by dsimp only; rw [fold3_nx (by omega),← hs,h4,h2]; rfl,by dsimp only; (try simp only [ByteArray.size_append,bsz1]); omega⟩ (dc d5 dn) (kc k1 kn) ⟨Z,Z,Z,eqI (by omega),trivial⟩
 refine jex (jtx (jtx (jbh (jx (jq (jr (jm Z (ja Z (jn (jx (jrt ?_)))))))))))
 exact jrS Z Z (by unfold funT3; rw [hs,fold3_all (by omega)])
end Go.Proofs.YtmfkkodnghambaaGreat
namespace Go.Proofs.YtmfkkodnghambaaGreat
open Go.JE
theorem E61 : Ent Tryz.prog 61 := ⟨_,Tryz.func61,by kernel_rfl,by kernel_rfl⟩
def same3 (a b : D.Func) : Bool := decide (funT3 a = funT3 b)
attribute [local irreducible] funT3
theorem same3_ct {a0 : Value} {a : D.Func} {a1 : Value} {b : D.Func} (hA : SmallD a) (hA2 : a.Blocks.length ≤ 1000) (hB : SmallD b) (hB2 : b.Blocks.length ≤ 1000) : Tv Tryz.prog 30 #[vFunc a a0,vFunc b a1] [da rFunc (vFunc a a0) a,da rFunc (vFunc b a1) b] [] (.bool (same3 a b)) := by
 refine jenter (args := [vFunc a a0,vFunc b a1]) Tryz.func30 rfl rfl rfl fun w0 X => ?_
 refine jq (jr (jbox Z Z fun g2 => jbox Z Z fun g3 => ja Z (jn (jx (jq (jany false (.a 0 (.a 2 (.o 1 (.o 3 (.a 4 (.a 5 .e)))))) Mixed (by kernel_rfl) (kd kn) fun F1 => jy Z (jla k1 A49 Z49 Z Z Z) (jy Z (jla k0 A49 Z49 Z Z Z) (jyo Z ?_))))))))
 refine jcv E61 Z Z (print3_ct hA hA2) (dc d1 dn) kn (jyn d0 (kd kn) (jyo Z (jcv E61 Z Z (print3_ct hB hB2) (dc d3 dn) kn (jyn d0 (kd kn) (jy Z (jeqlS U9 Z Z) (jy Z (jas Z) (jyd (jx (jrt ?_)))))))))
 exact jrB Z Z (by rfl)
theorem sum_mem9 : ∀ {l : List Nat} {x : Nat},x ∈ l → x ≤ l.sum
 | y :: l,x,h => by
   rw [List.sum_cons]
   rcases List.mem_cons.1 h with h | h
   · omega
   · have := sum_mem9 h; omega
theorem good_small {f : D.Func} (h : GoodF f) : SmallD f := fun x hx => by
 have h1 := h.cnt
 have h2 : x.Phis.length + x.Ins.length ≤ cntF3 f.Blocks := by unfold cntF3; exact sum_mem9 (List.mem_map.2 ⟨x,hx,rfl⟩)
 omega
theorem good_bl {f : D.Func} (h : GoodF f) : f.Blocks.length ≤ 1000 := by have := h.len.2; omega
theorem own_good : GoodF (one3 0 [] ⟨4,[],[],0⟩) := good_one (by decide) (by decide) (by decide) (by decide) (by decide) (by decide) (fun k hk => absurd hk (Nat.not_lt_zero _)) (fun v hv => by cases hv)
theorem own_run (m : List Int) : runF (one3 0 [] ⟨4,[],[],0⟩) ⟨[],m,[],1⟩ = ⟨1,0,memM ⟨[],m,[],1⟩,[],1⟩ := by rfl
theorem own_q1 {x : Int} (h : 0 ≤ x ∧ x ≤ 14) : decide (((List.length (memM ⟨[],List.replicate (Int.toNat (4089 + x)) 0,[],0⟩) : Nat) : Int) = min (4089 + x) 4096) = true := by
 unfold memM; rw [decide_eq_true_eq,List.length_take,List.length_replicate]; omega
theorem own_q2 {k : Nat} : decide (((List.length (runF (one3 0 [] ⟨4,[],[],0⟩) ⟨[],List.replicate k 0,[],1⟩).Mem : Nat) : Int) = ((List.length (memM ⟨[],List.replicate k 0,[],0⟩) : Nat) : Int)) = true := by rw [own_run]; exact decide_eq_true rfl
theorem own_q3 {k : Nat} : decide ((runF (one3 0 [] ⟨4,[],[],0⟩) ⟨[],List.replicate k 0,[],1⟩).End = 1) = true := by rw [own_run]; rfl
theorem own_q4 {k : Nat} : decide ((runF (one3 0 [] ⟨4,[],[],0⟩) ⟨[],List.replicate k 0,[],1⟩).Steps = 1) = true := by rw [own_run]; rfl
theorem own_good3 (l b : List Int) (q : Int) : GoodF (lawMade4 l b q).1 := good_made3 _
theorem own_same3 (l b : List Int) : same3 (lawMade4 l b 300).1 (made3 (List.take (Int.toNat (min (l.length : Int) 200)) l)) = true := by
 rw [← take_min l 200 200 rfl,show (lawMade4 l b 300).1 = made3 (l.take 200) by unfold lawMade4; rfl]; unfold same3; exact decide_eq_true rfl
theorem own_n {n : Int} (h : IntKind.u8.wrap n = n) : 0 ≤ IntKind.i64.wrap (Int.tmod n 15) ∧ IntKind.i64.wrap (Int.tmod n 15) ≤ 14 := by
 rw [IntKind.wrap_u8] at h
 rw [Int.tmod_eq_emod_of_nonneg (by omega),IntKind.wrap_i64]
 omega
theorem own_steps (l b : List Int) : (lawMade4 l b 300).2.Steps ≤ 1000000 := by unfold lawMade4; show min (max 300 (-1)) 500 ≤ 1000000; decide
theorem outcomeT_ct {D0 : List Dt} {a : D.Outcome} {m c : Value} {qs : List EV} {B B2 : Nat} (hW : outW a) : Tr Tryz.prog 27 #[.agg #[.int .i64 a.End,.int .i32 a.Val,m,c,.int .i64 a.Steps]] D0 [gl B (rI .i32) 21 m a.Mem,evr B2 c qs a.Calls] (fun c : Value × Value × List EV => .agg #[.int .i64 a.End,.int .i32 a.Val,c.1,c.2.1,.int .i64 a.Steps]) (fun _ => []) (fun B' c' => [gl B' (rI .i32) 21 c'.1 (a.Mem.take 20),evr B' c'.2.1 c'.2.2 (cutE (a.Calls.take 10)),gl B (rI .i32) 21 m a.Mem,evr B2 c qs a.Calls]) :=
 Tr.tempE (outcome_ct (a := a)) (dc (rOutcome.M (m := a) (c := (m,c)) d0 d1 (wp hW.1.1) (wp hW.1.2.1) (wp hW.1.2.2)) dn) (fun i B F G H hl o => ⟨⟨o.1.1.flatI hl,o.1.2⟩,o.2.1,ev_flat o.2.2.1 hl,fun _ _ h => h,trivial⟩) (by have := hW.2.1; omega) hW.2.2
end Go.Proofs.YtmfkkodnghambaaGreat
