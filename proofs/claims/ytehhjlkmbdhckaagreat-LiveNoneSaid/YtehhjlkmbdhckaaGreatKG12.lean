/- Lemmas that the claim is made of. Conditions: each lemma names its own. -/
import Derived.Test.YtehhjlkmbdhckaaGreatKG11
set_option linter.unusedSectionVars false
set_option linter.unusedSimpArgs false
set_option linter.unusedVariables false
namespace Go.JE
variable {P : Program} {D : List Dt} {L M : List Res} {e : Env} {H : Heap} {T T' E : TypeId} {x y : Operand} {p : Option Addr}
theorem equalIn_pN (hT : P.underlying T = some (.pointer E)) (d : Nat) (w : World) : (Op.equalIn (d + 1) T (.pointer p) (.pointer none)).run P w = .ok p.isNone w := by
 cases p <;> (simp only [Op.equalIn,Sem.run_bind,run_underlying hT,Result.andThen_ok]; rfl)
theorem OpOk.eqlP (hT : P.underlying T = some (.pointer E)) (hx : ev e x = some (.pointer p)) (hy : ev e y = some (.pointer none)) : OpOk P e (.binOp .eql T x y T') H (.bool p.isNone) := by
 intro ρ o w ho hev _
 have h1 : (Op.equal T (.pointer p) (.pointer none)).run P w = .ok p.isNone w := equalIn_pN hT 9999 w
 simp only [execOp,ho,hev _ _ hx,hev _ _ hy,eqGuard,binOp]
 simp [h1]
theorem OpOk.neqP (hT : P.underlying T = some (.pointer E)) (hx : ev e x = some (.pointer p)) (hy : ev e y = some (.pointer none)) : OpOk P e (.binOp .neq T x y T') H (.bool (!p.isNone)) := by
 intro ρ o w ho hev _
 have h1 : (Op.equal T (.pointer p) (.pointer none)).run P w = .ok p.isNone w := equalIn_pN hT 9999 w
 simp only [execOp,ho,hev _ _ hx,hev _ _ hy,eqGuard,binOp]
 simp [h1]
theorem jeqlP (hT : P.underlying T = some (.pointer E)) (hx : ev e x = some (.pointer p)) (hy : ev e y = some (.pointer none)) : OH P D L e (.binOp .eql T x y T') (.bool p.isNone) := fun _ _ _ _ _ => OpOk.eqlP hT hx hy
theorem jneqP (hT : P.underlying T = some (.pointer E)) (hx : ev e x = some (.pointer p)) (hy : ev e y = some (.pointer none)) : OH P D L e (.binOp .neq T x y T') (.bool (!p.isNone)) := fun _ _ _ _ _ => OpOk.neqP hT hx hy
section
variable {α : Type} [Inhabited α] {r : Rp α} {F : PH} {v : Value} {l : List α} {B i off : Nat} {k : IntKind} {n : Int}
theorem OpOk.ldGF (h : Gl r E F H B v l) (hi : i < l.length) (ho : off < r.sz) (hok : ∀ f,r.ok F (ix l i) f → f off = .int k n) (hT : One P T) (hx : ev e x = some (.pointer (some ⟨vblk v,voff v + i * r.sz + off,none⟩))) : OpOk P e (.load T x) H (.int k n) := by
 obtain ⟨f,h1,h2⟩ := h.cell hi (j := off) ho
 have h3 := hok f (by rw [ix_eq hi]; exact h1)
 rw [h3] at h2
 refine OpOk.load hT hx rfl ?_
 first | exact h2 | (rw [Nat.add_assoc]; exact h2)
theorem jgF (hk : Tk L (gl B r E v l) M) (hi : i < l.length) (hok : ∀ F f,r.ok F (ix l i) f → f off = .int k n) (hT : One P T) (hx : ev e x = some (.pointer (some ⟨vblk v,voff v + i * r.sz + off,none⟩))) (ho : off < r.sz := by exact Nat.le_of_ble_eq_true rfl) : OH P D L e (.load T x) (.int k n) := fun F H _ _ h => OpOk.ldGF (hk.ok h).1.1 hi ho (fun f => hok F f) hT hx
end
theorem results_cell1 {fn : Func} {p g : Nat} {ty : TypeId} {v : Value} (h : fn.results = #[.cell p ty]) (tmps : Array Value) (w : World) (hp : tmps.getD p undef = .pointer (some ⟨g,0,none⟩)) (hO : One P ty) (hc1 : w.cell? ⟨g,0,none⟩ = some v) :
   (results fn tmps).run P w = .ok v w := by
 have hp' : tmps[p]?.getD undef = .pointer (some ⟨g,0,none⟩) := by simpa using hp
 simp [results,h,hp',asAddr,loadVar,hO.run,hc1]
theorem PF.retV {n : Nat} {w0 : World} {fn : Func} {R : Value → Heap → Prop} {p g : Nat} {ty T : TypeId} {v : Value} (hr : fn.results = #[.cell p ty]) (hv : lk e p = some (.pointer (some ⟨g,0,none⟩))) (hb : Bx H g T [v])
   (hO : One P ty) (hR : R v H) : PF ⟨n,[]⟩ w0 (BQ P fn w0 R) e .ret H := by
 intro a w hf hw
 exact bodyPost_ret (results_cell1 hr _ w (hf.get p _ hv) hO (by rw [cell_hc,hw.heap]; exact hb.hc rfl)) hf.defers ⟨_,rfl,hw.os,hw.tape,hw.output,hw.heap ▸ hR⟩
section
variable {Q : Exit → Act → World → Prop} {X : Cx} {w0 : World} {fn : Func} {m : Nat} {ι : Type} {val : ι → Value} {dr : ι → List Dt} {lr : Nat → ι → List Res} {N : List Res}
theorem jrcV {p g : Nat} {ty T : TypeId} {v : Value} (hr : fn.results = #[.cell p ty]) (hv : lk e p = some (.pointer (some ⟨g,0,none⟩))) (hb : Tk L (bx g T [v]) N) (hO : One P ty)
   (i : ι) (hm : v = val i) (hd : Sd D L (dr i)) (hk : ∀ B,B ≤ X.n → Tks L (lr B i) M) : QH ⟨m,[]⟩ w0 (RQ2 P fn w0 X val dr lr) X D L e .ret := fun F H hp => PF.retV hr hv (hp.at hb).1 hO ⟨i,F,hm,fun B hB => hp.sub hd (hk B hB)⟩
theorem jrcD {α : Type} {r : Rp α} {a b : α} {p g : Nat} {ty T : TypeId} {v : Value} (hr : fn.results = #[.cell p ty]) (hv : lk e p = some (.pointer (some ⟨g,0,none⟩))) (hb : Tk L (bx g T [v]) N) (hO : One P ty) (hm : a = b) (hd : Nd D L (dv r v b)) :
   QH ⟨m,[]⟩ w0 (RQ2 P fn w0 X (fun v : Value => v) (fun v => [dv r v a]) (fun _ _ => [])) X D L e .ret := jrcV hr hv hb hO v rfl (dc (dcast hm hd) dn) (fun _ _ => kn)
end
structure St2 (P : Program) (T : TypeId) (k : IntKind) : Prop where
 und : ∃ f0 f1, P.underlying T = some (.struct #[f0, f1]) ∧ f0.name ≠ "_" ∧ f1.name ≠ "_" ∧ f0.offset = 0 ∧ f1.offset = 1 ∧ P.underlying f0.type = some (.int k) ∧ P.underlying f1.type = some (.int k)
 stood : P.stoodInHeld T = false
 guard : P.eqGuardType P.depth T = false
theorem equalIn_int {T : TypeId} {k : IntKind} {a b : Int} (hT : P.underlying T = some (.int k)) (d : Nat) (w : World) : (Op.equalIn (d + 1) T (.int k a) (.int k b)).run P w = .ok (a == b) w := by
 simp only [Op.equalIn,Sem.run_bind,run_underlying hT,Result.andThen_ok]; simp
theorem equalIn_st2 {T : TypeId} {k : IntKind} {a b c d : Int} (h : St2 P T k) (n : Nat) (w : World) : (Op.equalIn (n + 2) T (.agg #[.int k a,.int k b]) (.agg #[.int k c,.int k d])).run P w = .ok (decide (a = c ∧ b = d)) w := by
 obtain ⟨⟨f0,f1,hu,n0,n1,o0,o1,u0,u1⟩,hs,_⟩ := h
 have q0 : (isAgg f0.type).run P w = .ok false w := by simp [isAgg,run_underlying u0]
 have q1 : (isAgg f1.type).run P w = .ok false w := by simp [isAgg,run_underlying u1]
 have e0 : ∀ x y,(Op.equalIn (n + 1) f0.type (.int k x) (.int k y)).run P w = .ok (x == y) w := fun x y => equalIn_int u0 n w
 have e1 : ∀ x y,(Op.equalIn (n + 1) f1.type (.int k x) (.int k y)).run P w = .ok (x == y) w := fun x y => equalIn_int u1 n w
 rw [Op.equalIn]
 simp only [Sem.run_bind,run_underlying hu,Result.andThen_ok]
 by_cases h1 : a = c
 · subst h1
   by_cases h2 : b = d
   · subst h2; simp [hs,n0,n1,part,o0,o1,q0,q1,e0,e1]
   · simp [hs,n0,n1,part,o0,o1,q0,q1,e0,e1,h2]
 · simp [hs,n0,n1,part,o0,o1,q0,q1,e0,e1,h1]
theorem OpOk.neqSt2 {T T' : TypeId} {k : IntKind} {x y : Operand} {a b c d : Int} (h : St2 P T k) (hx : ev e x = some (.agg #[.int k a,.int k b])) (hy : ev e y = some (.agg #[.int k c,.int k d])) : OpOk P e (.binOp .neq T x y T') H (.bool (!decide (a = c ∧ b = d))) := by
 intro ρ o w ho hev _
 have h1 : (Op.equal T (.agg #[.int k a,.int k b]) (.agg #[.int k c,.int k d])).run P w = .ok (decide (a = c ∧ b = d)) w := equalIn_st2 h 9998 w
 simp only [execOp,ho,hev _ _ hx,hev _ _ hy,eqGuard,binOp]
 simp [h1,h.guard]
theorem jneqSt {k : IntKind} {a b c d : Int} (h : St2 P T k) (hx : ev e x = some (.agg #[.int k a,.int k b])) (hy : ev e y = some (.agg #[.int k c,.int k d])) : OH P D L e (.binOp .neq T x y T') (.bool (!decide (a = c ∧ b = d))) := fun _ _ _ _ _ => OpOk.neqSt2 h hx hy
end Go.JE
namespace Go.Proofs.YtehhjlkmbdhckaaGreat
open Go.JE
def thereM (m : D.MFunc) (b p : Int) : Bool := rightM m && decide (0 ≤ b) && decide (b < m.Blocks.length) && decide (0 ≤ p) && decide (p ≤ (ix m.Blocks (Int.toNat b)).Ins.length)
def sumB : List D.MBlock → Int
 | [] => 0
 | x :: l => x.Ins.length + 1 + sumB l
theorem sumB_append : ∀ (l k : List D.MBlock),sumB (l ++ k) = sumB l + sumB k
 | [],k => by simp [sumB]
 | x :: l,k => by rw [List.cons_append,sumB,sumB_append l k,sumB]; omega
theorem sumB_next {l : List D.MBlock} {k : Nat} (h : k < l.length) : sumB (l.take (k + 1)) = sumB (l.take k) + ((ix l k).Ins.length + 1) := by
 rw [take_ix h,sumB_append,sumB,sumB]; omega
theorem sumB_bd {l : List D.MBlock} (h : ∀ b,b < l.length → (ix l b).Ins.length < 1000000) : ∀ k,k ≤ l.length → 0 ≤ sumB (l.take k) ∧ sumB (l.take k) ≤ 1000000 * k
 | 0,_ => by simp [sumB]
 | k + 1,hk => by
   have h1 := sumB_bd h k (by omega)
   have h2 := h k (by omega)
   rw [sumB_next (by omega)]; omega
def numM (m : D.MFunc) (b p : Int) : Int := if thereM m b p = true then p + sumB (m.Blocks.take (Int.toNat b)) else -1
theorem there_yes {m : D.MFunc} {b p : Int} (h : thereM m b p = true) : rightM m = true ∧ 0 ≤ b ∧ b < m.Blocks.length ∧ 0 ≤ p ∧ p ≤ (ix m.Blocks (Int.toNat b)).Ins.length := by
 unfold thereM at h
 simp only [Bool.and_eq_true,decide_eq_true_eq] at h
 exact ⟨h.1.1.1.1,h.1.1.1.2,h.1.1.2,h.1.2,h.2⟩
theorem there_mk {m : D.MFunc} {b p : Int} (h : rightM m = true ∧ 0 ≤ b ∧ b < m.Blocks.length ∧ 0 ≤ p ∧ p ≤ (ix m.Blocks (Int.toNat b)).Ins.length) : thereM m b p = true := by
 unfold thereM
 simp only [Bool.and_eq_true,decide_eq_true_eq]
 exact ⟨⟨⟨⟨h.1,h.2.1⟩,h.2.2.1⟩,h.2.2.2.1⟩,h.2.2.2.2⟩
def rowQ (a b : List Int) : Bool := decide (a = b)
theorem row_ix {a b : List Int} (hl : a.length = b.length) (h : ∀ j,j < a.length → ix a j = ix b j) : a = b := List.ext_getElem hl fun j h1 h2 => by
 have := h j h1; rw [ix_eq h1,ix_eq h2] at this; exact this
theorem E17 : Ent Tryz.prog 17 := ⟨_,Tryz.func17,by kernel_rfl,by kernel_rfl⟩
theorem of_no {a0 : Value} {m : D.MFunc} (hr : rightM m = false) : Tr Tryz.prog 40 #[vMFunc m a0] [da rMFunc (vMFunc m a0) m] [] (fun _ : Unit => .pointer none) (fun _ => []) (fun _ _ => []) := by
 refine jenter (args := [vMFunc m a0]) Tryz.func40 rfl rfl rfl fun w0 X => ?_
 refine jq (jr (jbox Z Z fun g1 => ja Z (jn (jx (jq (jq (jr (js (jla k0 A28 Z28 Z Z Z) (jcv E34 Z Z pRight_ct (dc d0 dn) kn (js (jnot Z) ?_))))))))))
 refine jn (jx ?_)
 refine jif Z (fun hc1 => ?_) (fun hc1 => ?_)
 refine jq (jr (ja Z (jn (jx (jrt (jtr ?_))))))
 exact jr1 Z Z () Z dn (fun _ _ => kn)
 exact absurd hc1 (by simp [hr])
theorem number_ct {a0 : Value} {m : D.MFunc} (b : Int) (p : Int) : Tv Tryz.prog 15 #[vMFunc m a0,.int .i64 b,.int .i64 p] [da rMFunc (vMFunc m a0) m] [] (.int .i64 (numM m b p)) := by
 refine jenter (args := [vMFunc m a0,.int .i64 b,.int .i64 p]) Tryz.func15 rfl rfl rfl fun w0 X => ?_
 refine jq (jr (jbox Z Z fun g3 => ja Z (jn (jx (jq (jq (jr (jm Z (js (jlss Z Z) (jm Z ?_))))))))))
 refine jg Z Z (.f _) (fun hg => jmv Z) (jg Z Z (.f _) (fun hg => jf F28_1 Z) (jg Z Z (.f _) (fun hg => jl k0 O26 (evg Z hg) Z) (jdq (rMFunc.cB d0) fun q1 w1 => jg Z Z (.f _) (fun hg => jln U26 (rMFunc.cB d0) (evg Z hg)) (jg Z Z (.f _) (fun hg => jgeq (evg Z hg) (evg Z hg)) (js (jor Z Z) (jm Z (jg Z Z (.f _) (fun hg => jmv Z) (jg Z Z (.f _) (fun hg => jlss (evg Z hg) Z) (js (jor Z Z) (jm Z ?_))))))))))
 refine jg Z Z (.f _) (fun hg => jmv Z) (jg Z Z (.f _) (fun hg => jf F28_1 Z) (jg Z Z (.f _) (fun hg => jl k0 O26 (evg Z hg) Z) (jg Z Z (.f _) (fun hg => jmv Z) (jg Z Z (.f _) (fun hg => jix (i := (Int.toNat b)) U26 Z37 (rMFunc.cB d0) (evg Z hg) (evg Z hg) (by first | omega | (simp at hg; omega)) (by first | omega | (simp at hg; omega) | (simp only [List.length_set]; omega))) (jg Z Z (.f _) (fun hg => jf F37_1 (evg Z hg)) (jge (q := fun v => dv (rL rMach) v ((ix m.Blocks (Int.toNat b)).Ins)) Z Z (.f _) (fun hg => jlV (rMBlock.A_Ins (dix (rMFunc.cB d0) (Int.toNat b) (by first | omega | (simp at hg; omega) | (simp only [List.length_set]; omega)))) O33 Z (evg Z hg)) fun v30 => jg Z Z (.f _) (fun hg => jln U33 (d0.on hg) (evg Z hg)) (jg Z Z (.f _) (fun hg => jgtr (evg Z hg) (evg Z hg)) (js (jor Z Z) (jm Z (jg Z Z (.f _) (fun hg => jla k0 A28 Z28 Z Z Z) ?_))))))))))
 refine jgc Z Z (.f _) E34 Z (fun hg => evl1 (evg Z hg)) (fun hg => pRight_ct) (fun hg => (dc d1 dn)) kn p0 (jg Z Z (.f _) (fun hg => jnot (evg Z hg)) (js (jor Z Z) (jn (jx ?_))))
 refine jif Z (fun hc1 => ?_) (fun hc1 => ?_)
 refine jq (jr (ja Z (jn (jx (jrt (jtr ?_))))))
 exact jrI Z Z (by first | (rw [numM,if_pos hth,hs,show k = Int.toNat b by omega]; done) | (rw [numM,if_neg (fun h9 => by have h8 := there_yes h9; rcases hc1 with h7 | h7; (omega); (first | (rw [h8.1] at h7; cases h7) | (simp [h8.1] at h7)))]; done))
 have hrt := hc1.2
 have hq := right_ins hrt
 have hn0 := (right_wf hrt).n0
 have hib := hq (Int.toNat b) (by omega)
 have hth : thereM m b p = true := there_mk ⟨hrt,by omega,by omega,by omega,by omega⟩
 have htl : (m.Blocks.take (Int.toNat b)).length = Int.toNat b := by rw [List.length_take]; omega
 refine jsk (jx (jq (jr (jm Z (ja Z (jn (jx (jq (jq (jr (js (jf F28_1 Z) ?_)))))))))))
 refine js (jl k0 O26 Z Z) (jm Z (js (jshi (hi := (Int.toNat b)) U26 Z37 (rMFunc.cB d1) Z Z (by omega) (by omega)) (jdq (dhi (rMFunc.cB d1) (Int.toNat b) (by omega) (by omega)) fun q3 w3 => js (jln U26 (dhi (rMFunc.cB d1) (Int.toNat b) (by omega) (by omega)) Z) (jm Z (jn (jx (jb ?_)))))))
 refine jlp (u2 fun (k : Nat) (s : Int) => ⟨k ≤ Int.toNat b ∧ s = p + sumB (m.Blocks.take k),[da rMFunc (vMFunc m a0) m],[],[(6,.int .i64 0),(7,.int .i64 s),(43,(resl 7 a0 0 (Int.toNat b))),(44,.int .i64 (↑(List.length (List.take (Int.toNat b) m.Blocks)))),(45,.int .i64 (↑k))],Int.toNat b - k⟩) (0,p) ⟨by omega,by simp [sumB]⟩ (dc d1 dn) kn ⟨Z,eqI (by omega),Z,Z,eqI (by omega),trivial⟩ ?_
 rintro ⟨k,s⟩; dsimp only [u2]; rintro ⟨hk,hs⟩
 have hsb := sumB_bd hq k (by omega)
 refine jq (jr (js (jlss Z Z) (jn (jx (jq ?_)))))
 refine jif Z (fun hc2 => ?_) (fun hc2 => ?_)
 have hit := ix_take (l := m.Blocks) (i := k) (n := Int.toNat b) (by omega)
 have hil : (ix (m.Blocks.take (Int.toNat b)) k).Ins.length = (ix m.Blocks k).Ins.length := by rw [hit]
 have hik := hq k (by omega)
 refine jsk (jx (jq (jb (jq (jr (js (jix U26 Z37 (dhi (rMFunc.cB d0) (Int.toNat b) (by omega) (by omega)) Z Z Z (by omega)) (jA3 sMBlock (jlA (dix (dhi (rMFunc.cB d0) (Int.toNat b) (by omega) (by omega)) k (by omega)) A37 Z37 Z) fun c48a c48b c48c => jalc J37 Z fun g9 => jdq (rMBlock.cP d0) fun q5 w5 => jdq (rMBlock.cI d0) fun q6 w6 => jdq (rMBlock.cT d0) fun q7 w7 => ?_)))))))
 refine jsta k0 Z37 Z Z Z ⟨w5.one,w6.one,Z,Z,Z,w7.one,Z,trivial⟩ (saf Z) (jn (jx (jr (jm Z (js (jf F37_1 Z) (js (jl k0 O33 Z Z) (js (jln U33 (rMBlock.cI d0) Z) (js (jadd Z Z (by omega)) (js (jadd Z Z (by omega)) (ja Z (jn ?_)))))))))))
 refine jbn (jx (jr (js (jadd Z Z (by omega)) (jm Z (jn ?_)))))
 exact jag (k + 1,s + ((((List.length ((ix (List.take (Int.toNat b) m.Blocks) k).Ins) : Nat) : Int)) + 1)) ⟨by dsimp only; omega,by dsimp only; rw [hs,sumB_next (by omega),hil]; omega⟩ (dc d1 dn) kn ⟨Z,eqI (by omega),Z,Z,eqI (by omega),trivial⟩
 refine jex (jtx (jtx (jbh (jx (jq (jr (jm Z (ja Z (jn (jx (jrt ?_)))))))))))
 exact jrI Z Z (by first | (rw [numM,if_pos hth,hs,show k = Int.toNat b by omega]; done) | (rw [numM,if_neg (fun h9 => by have h8 := there_yes h9; rcases hc1 with h7 | h7; (omega); (first | (rw [h8.1] at h7; cases h7) | (simp [h8.1] at h7)))]; done))
theorem row_ct {a0 : Value} {a : List Int} {a1 : Value} {b : List Int} : Tv Tryz.prog 17 #[a0,a1] [dv (rL (rI .i64)) a0 a,dv (rL (rI .i64)) a1 b] [] (.bool (rowQ a b)) := by
 refine jenter (args := [a0,a1]) Tryz.func17 rfl rfl rfl fun w0 X => ?_
 refine jq (jr (ja Z (jn (jx (jq (jq (jr (jm Z (jdq d0 fun q1 w1 => js (jln U22 d0 Z) (jm Z ?_))))))))))
 refine jdq d1 fun q2 w2 => js (jln U22 d1 Z) (js (jneq Z Z) (jn (jx ?_)))
 refine jif Z (fun hc1 => ?_) (fun hc1 => ?_)
 refine jq (jr (ja Z (jn (jx (jrt (jtr ?_))))))
 exact jrB Z Z (by first | (exact decide_eq_true (row_ix (by omega) (fun j hj => hall j (by omega)))) | (exact decide_eq_false (fun h9 => by subst h9; exact hc3 rfl)) | (exact decide_eq_false (fun h9 => by subst h9; exact hc1 rfl)))
 refine jsk (jx (jq (jq (jr (ja Z (jn (jx (jb ?_))))))))
 refine jlp (fun (k : Nat) => ⟨k ≤ a.length ∧ ∀ j,j < k → ix a j = ix b j,[dv (rL (rI .i64)) a0 a,dv (rL (rI .i64)) a1 b],[],[(0,a0),(1,a1),(5,.int .i64 (↑k))],a.length - k⟩) 0 ⟨by omega,fun j hj => by omega⟩ (dc d0 (dc d1 dn)) kn ⟨Z,Z,eqI (by omega),trivial⟩ ?_
 rintro k; dsimp only; rintro ⟨hk,hall⟩
 refine jq (jq (jr (jm Z (jm Z (js (jln U22 d0 Z) (js (jlss Z Z) (jn (jx ?_))))))))
 refine jif Z (fun hc2 => ?_) (fun hc2 => ?_)
 refine jsk (jx (jq (jb (jq (jstl Mixed (by kernel_rfl) (jt (jmv Z) (jt (jmv Z) (jt (jix U22 Z3 d0 Z Z Z (by omega)) (jt (jlI (dix d0 k (by omega)) O3 Z) (jt (jmv Z) (jt (jmv Z) ?_)))))))))))
 refine jt (jix U22 Z3 d1 Z Z Z (by omega)) (jt (jlI (dix d1 k (by omega)) O3 Z) (jt (jneq Z Z) (jdn (jx ?_))))
 refine jif Z (fun hc3 => ?_) (fun hc3 => ?_)
 refine jq (jr (ja Z (jn (jx (jrt (jbr (jtr (jtr (jbr (jtr ?_))))))))))
 exact jrB Z Z (by first | (exact decide_eq_true (row_ix (by omega) (fun j hj => hall j (by omega)))) | (exact decide_eq_false (fun h9 => by subst h9; exact hc3 rfl)) | (exact decide_eq_false (fun h9 => by subst h9; exact hc1 rfl)))
 refine jsk (jbn (jx (jr (jm Z (js (jadd Z Z (by omega)) (ja Z (jn ?_)))))))
 exact jag (k + 1) ⟨by omega,fun j hj => by rcases Nat.lt_or_ge j k with h7 | h7; (exact hall j h7); (rw [show j = k by omega]; exact hc3)⟩ (dc d0 (dc d1 dn)) kn ⟨Z,Z,eqI (by omega),trivial⟩
 refine jex (jtx (jtx (jbh (jx (jq (jr (ja Z (jn (jx (jrt ?_))))))))))
 exact jrB Z Z (by first | (exact decide_eq_true (row_ix (by omega) (fun j hj => hall j (by omega)))) | (exact decide_eq_false (fun h9 => by subst h9; exact hc3 rfl)) | (exact decide_eq_false (fun h9 => by subst h9; exact hc1 rfl)))
theorem sAt_rg {now : List Int} (hn : ∀ y ∈ now,Rg y) : ∀ {l : List D.Mach},(∀ i ∈ l,∀ r ∈ takesM i,Rg r) → ∀ y ∈ sAt l now,Rg y
 | [],_,y,hy => hn y hy
 | i :: l,h,y,hy => by
   rw [sAt,uniS_mem,delS_mem] at hy
   rcases hy with hy | hy
   · exact sAt_rg hn (fun j hj => h j (by simp [hj])) y hy.1
   · exact h i (by simp) y hy
def atE (bs : List D.MBlock) (b p : Nat) : List Int := sAt ((ix bs b).Ins.drop p) (uniS (ix (loE bs) b) (nM9 (ix bs b).End))
structure SOk (S : List Int) : Prop where
 w : ∀ y ∈ S,IntKind.i64.wrap y = y
 n : S.length < 1000000
 r : Ris S
 g : ∀ y ∈ S,Rg y
theorem SOk.mk' {S : List Int} (h1 : Ris S) (h2 : ∀ y ∈ S,Rg y) : SOk S := ⟨fun y hy => (h2 y hy).w,by
 have := ris_len (l := S) (lo := 0) (hi := 8192) h1 (by omega) h2; omega,h1,h2⟩
section
variable {bs : List D.MBlock}
theorem loE_ok (hw : WL bs) {b : Nat} (hb : b < bs.length) : SOk (ix (loE bs) b) := .mk' (loE_ris hw hb) fun y hy => hw.lo ((loE_mem hw hb).1 hy) hb
theorem at_ok (hw : WL bs) {b p : Nat} (hb : b < bs.length) : SOk (atE bs b p) := .mk' (sAt_ris (uniS_ris (loE_ris hw hb))) (sAt_rg (fun y hy => by
   rw [uniS_mem] at hy
   rcases hy with hy | hy
   · exact (loE_ok hw hb).g y hy
   · exact (hw.rg b hb).2.1 y hy) (fun i hi => ((hw.rg b hb).1 i (List.mem_of_mem_drop hi)).1))
theorem at_some {b : Nat} (hb : b < bs.length) {p : Nat} (hp : p ≤ (ix bs b).Ins.length) : some (atE bs b p) = ix (ix (plM bs) b) p := by
 rw [plM_ix hb,blkP_ix hp]; rfl
theorem lo_some (hw : WL bs) {b : Nat} (hb : b < bs.length) : some (ix (loE bs) b) = ix ((loE bs).map some) b := by
 have h1 : b < (loE bs).length := by rw [loE_len hw]; exact hb
 rw [ix_eq (l := (loE bs).map some) (by rw [List.length_map]; exact h1),ix_eq (l := loE bs) h1]; simp
theorem pl_len {b : Nat} (hb : b < bs.length) : (ix (plM bs) b).length = (ix bs b).Ins.length + 1 := by rw [plM_ix hb,blkP_len]
end
def atM (m : D.MFunc) (b p : Int) : List Int := if thereM m b p = true then atE m.Blocks (Int.toNat b) (Int.toNat p) else []
theorem numM_neg {m : D.MFunc} {b p : Int} : (numM m b p < 0 → thereM m b p = false) ∧ (¬ numM m b p < 0 → thereM m b p = true) := by
 unfold numM
 by_cases h : thereM m b p = true
 · rw [if_pos h]
   obtain ⟨h1,h2,h3,h4,h5⟩ := there_yes h
   have := sumB_bd (l := m.Blocks) (right_ins h1) (Int.toNat b) (by omega)
   exact ⟨fun h9 => by omega,fun _ => h⟩
 · rw [if_neg h]; exact ⟨fun _ => by simpa using h,fun h9 => by omega⟩
def setsI (m : D.MFunc) : List (List Int) := if rightM m = true then (List.range m.Blocks.length).map (fun b => atE m.Blocks b 0) else []
def setsO (m : D.MFunc) : List (List Int) := if rightM m = true then loE m.Blocks else []
def hasE (m : D.MFunc) (b p : Nat) : List Int :=
 if 0 < p then uniS (atE m.Blocks b p) (makesM (ix (ix m.Blocks b).Ins (p - 1)))
 else if b = 0 then uniS (uniS (atE m.Blocks b p) (dsts (ix m.Blocks b))) ((List.range (Int.toNat m.Params)).map (fun r : Nat => (r : Int)))
 else uniS (atE m.Blocks b p) (dsts (ix m.Blocks b))
theorem uniS_one {S : List Int} {xs : List Int} {x : Int} : uniS (uniS S xs) [x] = uniS S (xs ++ [x]) := by unfold uniS; rw [List.foldl_append]
theorem has_ok {m : D.MFunc} (hr : rightM m = true) {b p : Nat} (hb : b < m.Blocks.length) (hp : p ≤ (ix m.Blocks b).Ins.length) : SOk (hasE m b p) := by
 have hw := right_wl hr
 have h0 := at_ok (p := p) hw hb
 have hP := (right_wf hr).p0
 obtain ⟨h1,h2,h3⟩ := hw.rg b hb
 have hd : ∀ y ∈ dsts (ix m.Blocks b),Rg y := fun y hy => by
   obtain ⟨q,hq,e⟩ := List.mem_map.1 hy
   rw [← e]; exact (h3 q hq).1
 unfold hasE
 split
 · refine .mk' (uniS_ris h0.r) fun y hy => ?_
   rw [uniS_mem] at hy
   rcases hy with hy | hy
   · exact h0.g y hy
   · exact (h1 _ (ix_mem (by omega))).2 y hy
 split
 · refine .mk' (uniS_ris (uniS_ris h0.r)) fun y hy => ?_
   rw [uniS_mem,uniS_mem] at hy
   rcases hy with (hy | hy) | hy
   · exact h0.g y hy
   · exact hd y hy
   · obtain ⟨r,hr2,e⟩ := List.mem_map.1 hy
     rw [List.mem_range] at hr2
     unfold Rg; omega
 · refine .mk' (uniS_ris h0.r) fun y hy => ?_
   rw [uniS_mem] at hy
   rcases hy with hy | hy
   · exact h0.g y hy
   · exact hd y hy
abbrev U91 := @Tryz.underlying91
theorem E15 : Ent Tryz.prog 15 := ⟨_,Tryz.func15,by kernel_rfl,by kernel_rfl⟩
theorem E39 : Ent Tryz.prog 39 := ⟨_,Tryz.func39,by kernel_rfl,by kernel_rfl⟩
theorem E40 : Ent Tryz.prog 40 := ⟨_,Tryz.func40,by kernel_rfl,by kernel_rfl⟩
theorem at_ct {a0 : Value} {m : D.MFunc} (b : Int) (p : Int) : Td Tryz.prog 18 #[vMFunc m a0,.int .i64 b,.int .i64 p] [da rMFunc (vMFunc m a0) m] [] (rL (rI .i64)) (atM m b p) := by
 refine jenter (args := [vMFunc m a0,.int .i64 b,.int .i64 p]) Tryz.func18 rfl rfl rfl fun w0 X => ?_
 refine jq (jr (jbox Z Z fun g3 => ja Z (jn (jx (jq (jq (jr (js (jla k0 A28 Z28 Z Z Z) (jm Z (jm Z ?_))))))))))
 refine jcv E15 Z Z (number_ct b p) (dc d0 dn) kn (js (jlss Z Z) (jn (jx ?_)))
 refine jif Z (fun hc1 => ?_) (fun hc1 => ?_)
 refine jq (jr (ja Z (jn (jx (jrt (jtr ?_))))))
 exact jrD Z Z (by first | (rw [atM,if_pos hth]; done) | (rw [atM,if_neg (by rw [numM_neg.1 hc1]; simp)]; done)) wN
 have hth := numM_neg.2 hc1
 have hty := there_yes hth
 have hr := hty.1
 have hw := right_wl hr
 have hq := right_ins hr
 have hple := plM_len (bs := m.Blocks)
 have hpll := pl_len (bs := m.Blocks) (b := Int.toNat b) (by omega)
 have hso := at_ok (p := Int.toNat p) hw (b := Int.toNat b) (by omega)
 refine jsk (jx (jq (jr (js (jla k0 A28 Z28 Z Z Z) (jc E40 Z Z (of_ct hr) (dc d0 dn) kn (fun _ => p2) (fun _ => p1) fun c13 => js (jnil Z) (js (jf F90_2 Z) (js (jl k0 O88 Z Z) (jm Z (jdq d1 fun q3 w3 => js (jix (i := (Int.toNat b)) U88 Z87 d1 Z Z (by omega) (by omega)) ?_)))))))))
 refine jev (jlV (dix d1 (Int.toNat b) (by omega)) O87 Z Z) fun v19 q4 w4 => jm Z (js (jix (i := (Int.toNat p)) U87 Z86 d0 Z Z (by omega) (by omega)) (je (q := fun v => dv rSet v (ix (ix (plM m.Blocks) (Int.toNat b)) (Int.toNat p))) (jlV (dix d0 (Int.toNat p) (by omega)) O86 Z Z) fun v22 => jcg E39 Z Z (sorted_ct hso.w hso.n) (dc (dcast (a := ix (ix (plM m.Blocks) (Int.toNat b)) (Int.toNat p)) (a' := some (atE m.Blocks (Int.toNat b) (Int.toNat p))) (at_some (by omega) (by omega)) d0) dn) kn fun v23 w7 => ja Z (jn (jx (jrt (qfz k0 (by have := hso.n; omega) ?_))))))
 exact jrD Z Z (by first | (rw [atM,if_pos hth]; done) | (rw [atM,if_neg (by rw [numM_neg.1 hc1]; simp)]; done)) d0
theorem sets_ct {a0 : Value} {m : D.MFunc} : Tr Tryz.prog 25 #[vMFunc m a0] [da rMFunc (vMFunc m a0) m] [] (fun c : Value × Value => .tuple #[c.1,c.2]) (fun c => [dv (rL (rL (rI .i64))) c.1 (setsI m),dv (rL (rL (rI .i64))) c.2 (setsO m)]) (fun _ _ => []) := by
 refine jenter (args := [vMFunc m a0]) Tryz.func25 rfl rfl rfl fun w0 X => ?_
 refine jq (jr (jbox Z Z fun g1 => ja Z (ja Z (jn (jx (jq (jr (js (jla k0 A28 Z28 Z Z Z) ?_))))))))
 refine Bool.casesOn (motive := fun b => rightM m = b → _) (rightM m) (fun hr => ?_) (fun hr => ?_) rfl
 refine jc E40 Z Z (of_no hr) (dc d0 dn) kn (fun _ => p0) (fun _ => p0) fun _ => ja Z (jn (jx (jq (jq (jr (jm Z (js (jeqlP U91 Z Z) (jn (jx ?_)))))))))
 refine jif Z (fun hc1 => ?_) (fun hc1 => ?_)
 refine jq (jr (ja Z (ja Z (jn (jx (jrt (jtr ?_)))))))
 exact jr2 Z Z Z ((.slice none 0 0,.slice none 0 0) : Value × Value) Z (dc (dcast (a := []) (a' := setsI m) (by rw [setsI,if_neg (by simp [hr])]) wN) (dc (dcast (a := []) (a' := setsO m) (by rw [setsO,if_neg (by simp [hr])]) wN) dn)) (fun _ _ => kn)
 exact absurd hc1 (by simp)
 refine jc E40 Z Z (of_ct hr) (dc d0 dn) kn (fun _ => p2) (fun _ => p1) fun c7 => ?_
 have hw := right_wl hr
 have hq := right_ins hr
 have hn0 := (right_wf hr).n0
 have hnP := (right_wf hr).p0
 have hple := plM_len (bs := m.Blocks)
 have hlol := loE_len hw
 have hlm : (List.map some (loE m.Blocks)).length = m.Blocks.length := by rw [List.length_map]; exact hlol
 refine ja Z (jn (jx (jq (jq (jr (jm Z (js (jeqlP U91 Z Z) (jn (jx ?_)))))))))
 refine jif Z (fun hc2 => ?_) (fun hc2 => ?_)
 exact absurd hc2 (by simp)
 refine jsk (jx (jq (jq (jr (jm Z (js (jnil Z) (js (jf F90_2 Z) (js (jl k0 O88 Z Z) (jdq d1 fun q3 w3 => js (jln U88 d1 Z) (jm Z ?_))))))))))
 refine jn (jx (jb (cnl (r := (rL (rI .i64))) (E := 22) (cnl (r := (rL (rI .i64))) (E := 22) ?_))))
 refine jlp (u5 fun (k : Nat) (vi : Value) (vo : Value) (si : List (List Int)) (so : List (List Int)) => ⟨k ≤ m.Blocks.length ∧ si = (List.range k).map (fun b => atE m.Blocks b 0) ∧ so = (loE m.Blocks).take k,[dv (rL rSet) c7.2.1 ((loE m.Blocks).map some),dv (rL (rL rSet)) c7.2.2 (plM m.Blocks),da rMFunc (vMFunc m a0) m],[gl X.n (rL (rI .i64)) 22 vo so,gl X.n (rL (rI .i64)) 22 vi si,bx c7.1 90 [.int .i64 m.Params,a0,c7.2.1,c7.2.2]],[(2,vi),(3,vo),(4,.pointer (some ⟨c7.1,0,none⟩)),(14,.int .i64 (↑(List.length (plM m.Blocks)))),(15,.int .i64 (↑k))],m.Blocks.length - k⟩) (0,.slice none 0 0,.slice none 0 0,[],[]) ⟨by dsimp only; omega,rfl,by simp⟩ (dc d0 (dc d1 (dc d2 dn))) (kd (kc k0 kn)) ⟨Z,Z,Z,Z,eqI (by omega),trivial⟩ ?_
 rintro ⟨k,vi,vo,si,so⟩; dsimp only [u5]; rintro ⟨hk,hsi,hso⟩
 refine cgo k1 fun w4 => cgo k0 fun w5 => ?_
 have hli : si.length = k := by rw [hsi]; simp
 have hlo : so.length = k := by rw [hso,List.length_take]; omega
 refine jq (jr (js (jlss Z Z) (jn (jx (jq ?_)))))
 refine jif Z (fun hc3 => ?_) (fun hc3 => ?_)
 have hkb : k < m.Blocks.length := by omega
 have hpll := pl_len (bs := m.Blocks) hkb
 refine jsk (jx (jq (jb (jq (jr (jm Z (ja Z (jn (jx (jq (jr ?_)))))))))))
 refine jm Z (jm Z (js (jnil Z) (js (jf F90_2 Z) (js (jl k2 O88 Z Z) (jm Z (js (jix U88 Z87 d1 Z Z Z (by omega)) (jev (jlV (dix d1 k (by omega)) O87 Z Z) fun v25 q6 w6 => js (jix (i := 0) U87 Z86 d0 Z Z Z (by omega)) (je (q := fun v => dv rSet v (ix (ix (plM m.Blocks) k) 0)) (jlV (dix d0 0 (by omega)) O86 Z Z) fun v27 => jcg E39 Z Z (sorted_ct (at_ok (p := 0) hw hkb).w (at_ok (p := 0) hw hkb).n) (dc (dcast (a := ix (ix (plM m.Blocks) k) 0) (a' := some (atE m.Blocks k 0)) (at_some hkb (Nat.zero_le _)) d0) dn) kn fun v28 w9 => jfz k0 (by have := (at_ok (p := 0) hw hkb).n; omega) ?_))))))))
 refine japv U52 I22 (by decide) Z Z k1 Z d0 (by omega) (fun _ => Z) fun v30 _ w11 => ja Z (jn (jx (jr (jm Z (jm Z (js (jnil Z) (js (jf F90_1 Z) (js (jl k2 O87 Z Z) (jm Z (jdq d3 fun q12 w12 => ?_))))))))))
 refine js (jix U87 Z86 d3 Z Z Z (by omega)) (je (q := fun v => dv rSet v (ix ((loE m.Blocks).map some) k)) (jlV (dix d3 k (by omega)) O86 Z Z) fun v38 => jcg E39 Z Z (sorted_ct (loE_ok hw hkb).w (loE_ok hw hkb).n) (dc (dcast (a := ix ((loE m.Blocks).map some) k) (a' := some (ix (loE m.Blocks) k)) (lo_some hw hkb) d0) dn) kn fun v39 w14 => jfz k0 (by have := (loE_ok hw hkb).n; omega) (japv U52 I22 (by decide) Z Z k1 Z d0 (by omega) (fun _ => Z) fun v41 _ w16 => ja Z (jn (jbn (jx (jr (js (jadd Z Z (by omega)) (jm Z ?_))))))))
 refine jn ?_
 exact jag (k + 1,v30,v41,si ++ [(atE m.Blocks k 0)],so ++ [(ix (loE m.Blocks) k)]) ⟨by dsimp only; omega,by dsimp only; rw [hsi,List.range_succ,List.map_append]; rfl,by dsimp only; rw [hso,take_ix (by omega)]⟩ (dc d5 (dc d6 (dc d7 dn))) (kd (kc k0 kn)) ⟨Z,Z,Z,Z,eqI (by omega),trivial⟩
 refine jex (jtx (jtx (jbh (jx (jq (jr (jm Z (jm Z (ja Z (ja Z (jn ?_)))))))))))
 refine jx (jrt ?_)
 have e1 : si = setsI m := by rw [hsi,setsI,if_pos hr,show k = m.Blocks.length by omega]
 have e2 : so = setsO m := by rw [hso,setsO,if_pos hr,List.take_of_length_le (by omega)]
 subst e1
 subst e2
 refine qfz k1 (by omega) (qfz k0 (by omega) ?_)
 exact jr2 Z Z Z ((vi,vo) : Value × Value) Z (dc d1 (dc d0 dn)) (fun _ _ => kn)
theorem liveHas_ct {g0 : Nat} {bv ev pv : Value} {m : D.MFunc} (b : Nat) (p : Nat) (hr : rightM m = true) (hb : b < m.Blocks.length) (hp : p ≤ (ix m.Blocks b).Ins.length) : Tr Tryz.prog 71 #[.pointer (some ⟨g0,0,none⟩),.int .i64 (b : Nat),.int .i64 (p : Nat)] [dv (rL rMBlock) bv m.Blocks,dv (rL rSet) ev (List.map some (loE m.Blocks)),dv (rL (rL rSet)) pv (plM m.Blocks)] [bx g0 90 [.int .i64 m.Params,bv,ev,pv]] (fun g : Nat => .map (some g)) (fun _ => []) (fun B g => [bx g0 90 [.int .i64 m.Params,bv,ev,pv],sm B g (hasE m b p)]) := by
 refine jenter (args := [.pointer (some ⟨g0,0,none⟩),.int .i64 (b : Nat),.int .i64 (p : Nat)]) Tryz.func71 rfl rfl rfl fun w0 X => ?_
 have hw := right_wl hr
 have hq := right_ins hr
 have hqb := hq b hb
 have hnP := (right_wf hr).p0
 have hple := plM_len (bs := m.Blocks)
 have hpll := pl_len (bs := m.Blocks) hb
 refine jq (jr (ja Z (jn (jx (jq (jr (jm Z (js (jnil Z) (js (jf F90_2 Z) (js (jl k0 O88 Z Z) (jm Z ?_)))))))))))
 refine jdq d2 fun q1 w1 => js (jix U88 Z87 d2 Z Z Z (by omega)) (jev (jlV (dix d2 b (by omega)) O87 Z Z) fun v17 q2 w2 => jm Z (js (jix U87 Z86 d0 Z Z Z (by omega)) (je (q := fun v => dv rSet v (ix (ix (plM m.Blocks) b) p)) (jlV (dix d0 p (by omega)) O86 Z Z) fun v20 => jc E108 Z Z setClone_ct (dc (dcast (a := ix (ix (plM m.Blocks) b) p) (a' := some (atE m.Blocks b p)) (at_some hb hp) d0) dn) kn (fun _ => p0) (fun _ => p1) fun g21 => ja Z (jn (jx (jq (jq ?_)))))))
 refine jr (jm Z (js (jgtr Z Z) (jn (jx ?_))))
 refine jif Z (fun hc1 => ?_) (fun hc1 => ?_)
 refine jq (jr (jm Z (jm Z (js (jnil Z) (js (jf F90_0 Z) (js (jf F28_1 Z) (js (jl k1 O26 Z Z) (jm Z (jdq d2 fun q5 w5 => js (jix U26 Z37 d2 Z Z Z (by omega)) (js (jf F37_1 Z) ?_))))))))))
 refine jev (jlV (rMBlock.A_Ins (dix d2 b (by omega))) O33 Z Z) fun v33 q6 w6 => jm Z (js (jsub Z Z (by omega)) (js (jix (i := (p - 1)) U33 Z69 d0 Z Z (by omega) (by omega)) (jA sMach (jlA (dix d0 (p - 1) (by omega)) A69 Z69 Z) fun c37 => jcd E31 Z Z pMakes_ct (dc d0 dn) kn fun v38 q9 w9 => jc E110 Z Z with_ct (dc d0 dn) (kc k0 kn) (fun _ => p0) (fun _ => p1) fun _ => jn (jx (jq (jr (jm Z ?_)))))))
 refine ja Z (jn (jx (jrt (jtr ?_))))
 exact jr1 Z Z g21 Z dn (fun _ hB => kc k1 (klS (by unfold hasE; rw [if_pos (by omega)]) hB k0 kn))
 refine jsk (jx (jq (jq (jr (jm Z (js (jnil Z) (js (jf F90_0 Z) (js (jf F28_1 Z) (js (jl k1 O26 Z Z) (jm Z (jdq d2 fun q11 w11 => ?_)))))))))))
 refine js (jix U26 Z37 d2 Z Z Z (by omega)) (js (jf F37_0 Z) (jev (jlV (rMBlock.A_Phis (dix d2 b (by omega))) O32 Z Z) fun v49 q12 w12 => js (jln U32 d0 Z) (jm Z (jn (jx (jb ?_))))))
 refine jlp (u2 fun (i : Nat) (S1 : List Int) => ⟨i ≤ (ix m.Blocks b).Phis.length ∧ S1 = uniS (atE m.Blocks b p) (((ix m.Blocks b).Phis.take i).map (fun q => q.Dst)),[dv (rL rPhi) v49 ((ix m.Blocks b).Phis),dv (rL rMBlock) bv m.Blocks,dv (rL rSet) ev (List.map some (loE m.Blocks)),dv (rL (rL rSet)) pv (plM m.Blocks)],[sm X.n g21 S1,bx g0 90 [.int .i64 m.Params,bv,ev,pv]],[(0,.pointer (some ⟨g0,0,none⟩)),(1,.int .i64 (↑b)),(6,.map none),(7,(.map (some g21))),(49,v49),(50,.int .i64 (↑(List.length ((ix m.Blocks b).Phis)))),(51,.int .i64 (↑i))],(ix m.Blocks b).Phis.length - i⟩) (0,(atE m.Blocks b p)) ⟨by dsimp only; omega,rfl⟩ (dc d0 (dc d3 (dc d4 (dc d5 dn)))) (kd kn) ⟨Z,Z,Z,Z,Z,Z,eqI (by omega),trivial⟩ ?_
 rintro ⟨i,S1⟩; dsimp only [u2]; rintro ⟨hi1,hS1⟩
 refine jq (jr (js (jlss Z Z) (jn (jx (jq ?_)))))
 refine jif Z (fun hc2 => ?_) (fun hc2 => ?_)
 refine jsk (jx (jq (jb (jq (jr (js (jix U32 Z62 d0 Z Z Z (by omega)) (jA sPhi (jlA (dix d0 i (by omega)) A62 Z62 Z) fun c54 => jalc J62 Z fun g9 => jdq (rPhi.c_In d0) fun q15 w15 => jsta k0 Z62 Z Z Z ⟨Z,w15.one,trivial⟩ (saf Z) (jn ?_))))))))
 refine jx (jr (jm Z (js (jf F62_0 Z) (js (jl k0 O3 Z Z) (jlit (r := (rI .i64)) (l := [(ix ((ix m.Blocks b).Phis) i).Dst]) U22 I3 (by decide) Z Z Z (lV Z Z (wI (rPhi.W_Dst d0)) ln) fun g58 => jfz k0 (by (try simp) <;> omega) (jc E110 Z Z with_ct (dc d0 dn) (kc k1 kn) (fun _ => p0) (fun _ => p1) fun _ => jn (jbn (jx (jr ?_)))))))))
 refine js (jadd Z Z (by omega)) (jm Z (jn ?_))
 exact jag (i + 1,uniS S1 ([(ix ((ix m.Blocks b).Phis) i).Dst])) ⟨by dsimp only; omega,by dsimp only; rw [hS1,take_ix (by omega),List.map_append,uniS_one]; rfl⟩ (dc d2 (dc d3 (dc d4 (dc d5 dn)))) (kc k0 (kc k1 kn)) ⟨Z,Z,Z,Z,Z,Z,eqI (by omega),trivial⟩
 refine jex (jtx (jtx (jbh (jx (jq (jq (jr (jm Z (js (jnil Z) (js (jf F90_0 Z) (js (jf F28_0 Z) ?_)))))))))))
 refine js (jl k1 O3 Z Z) (jm Z (jn (jx (jb ?_))))
 have hS2 : S1 = uniS (atE m.Blocks b p) (dsts (ix m.Blocks b)) := by rw [hS1,List.take_of_length_le (by omega)]; rfl
 refine jlp (u2 fun (r : Nat) (S2 : List Int) => ⟨r ≤ Int.toNat m.Params ∧ S2 = if b = 0 then uniS S1 ((List.range r).map (fun r : Nat => (r : Int))) else S1,[dv (rL rMBlock) bv m.Blocks,dv (rL rSet) ev (List.map some (loE m.Blocks)),dv (rL (rL rSet)) pv (plM m.Blocks)],[sm X.n g21 S2,bx g0 90 [.int .i64 m.Params,bv,ev,pv]],[(1,.int .i64 (↑b)),(6,.map none),(7,(.map (some g21))),(65,.int .i64 m.Params),(66,.int .i64 (↑r))],Int.toNat m.Params - r⟩) (0,S1) ⟨by dsimp only; omega,by dsimp only; split <;> rfl⟩ (dc d1 (dc d2 (dc d3 dn))) (kd kn) ⟨Z,Z,Z,Z,eqI (by omega),trivial⟩ ?_
 rintro ⟨r,S2⟩; dsimp only [u2]; rintro ⟨hr1,hS3⟩
 refine jq (jr (js (jlss Z Z) (jn (jx (jq ?_)))))
 refine jif Z (fun hc3 => ?_) (fun hc3 => ?_)
 refine jsk (jx (jq (jb (jq (jr (jm Z (ja Z (jn (jx (jq (jr ?_)))))))))))
 refine jm Z (js (jeql Z Z) (jn (jx ?_)))
 refine jif Z (fun hc4 => ?_) (fun hc4 => ?_)
 refine jr (jm Z (jm Z (jlit (r := (rI .i64)) (l := [↑r]) U22 I3 (by decide) Z Z Z (lV Z Z (wI (wp (IntWalk.i64_in _ (by omega)))) ln) fun g73 => jfz k0 (by (try simp) <;> omega) (jc E110 Z Z with_ct (dc d0 dn) (kc k0 kn) (fun _ => p0) (fun _ => p1) fun _ => jn (jbn (jx (jr (js (jadd Z Z (by omega)) (jm Z ?_)))))))))
 refine jn ?_
 exact jag (r + 1,uniS S2 ([((r : Nat) : Int)])) ⟨by dsimp only; omega,by dsimp only; rw [hS3]; rw [if_pos (show b = 0 by omega),if_pos (show b = 0 by omega),uniS_one,List.range_succ,List.map_append]; rfl⟩ (dc d1 (dc d2 (dc d3 dn))) (kd kn) ⟨Z,Z,Z,Z,eqI (by omega),trivial⟩
 refine jsk (jbn (jx (jr (js (jadd Z Z (by omega)) (jm Z (jn ?_))))))
 exact jag (r + 1,S2) ⟨by dsimp only; omega,by dsimp only; rw [hS3]; rw [if_neg (show ¬ b = 0 by omega),if_neg (show ¬ b = 0 by omega)]⟩ (dc d0 (dc d1 (dc d2 dn))) (kd kn) ⟨Z,Z,Z,Z,eqI (by omega),trivial⟩
 refine jex (jtx (jtx (jbh (jx (jq (jr (jm Z (ja Z (jn (jx (jrt ?_)))))))))))
 exact jr1 Z Z g21 Z dn (fun _ hB => kc k1 (klS (by unfold hasE; rw [if_neg (by omega),hS3,hS2,show r = Int.toNat m.Params by omega]) hB k0 kn))
def preP (m : D.MFunc) (b p : Nat) : List (Nat × Nat) := (List.range b).flatMap (fun b => (List.range ((ix m.Blocks b).Ins.length + 1)).map (fun p => (b,p))) ++ (List.range p).map (fun p => (b,p))
theorem preP_next {m : D.MFunc} {b p : Nat} : preP m b (p + 1) = preP m b p ++ [(b,p)] := by
 unfold preP; rw [List.range_succ,List.map_append,List.append_assoc]; rfl
theorem preP_blk {m : D.MFunc} {b : Nat} : preP m (b + 1) 0 = preP m b ((ix m.Blocks b).Ins.length + 1) := by
 unfold preP; rw [List.range_succ,List.flatMap_append]; simp
def stM {σ : Type} (f : σ → Nat → List Int → σ) (m : D.MFunc) (b p : Nat) (s : σ) : σ := (preP m b p).zipIdx.foldl (fun s x => f s x.2 (hasE m x.1.1 x.1.2)) s
theorem stM_next {σ : Type} {f : σ → Nat → List Int → σ} {m : D.MFunc} {b p : Nat} {s : σ} : stM f m b (p + 1) s = f (stM f m b p s) (preP m b p).length (hasE m b p) := by
 unfold stM; rw [preP_next,List.zipIdx_append,List.foldl_append]; simp
theorem stM_blk {σ : Type} {f : σ → Nat → List Int → σ} {m : D.MFunc} {b : Nat} {s : σ} : stM f m (b + 1) 0 s = stM f m b ((ix m.Blocks b).Ins.length + 1) s := by unfold stM; rw [preP_blk]
theorem preP_len {m : D.MFunc} {b p : Nat} : (preP m b (p + 1)).length = (preP m b p).length + 1 := by rw [preP_next]; simp
theorem preP_bd {m : D.MFunc} (h : ∀ b,b < m.Blocks.length → (ix m.Blocks b).Ins.length < 1000000) : ∀ {b : Nat},b ≤ m.Blocks.length → (preP m b 0).length ≤ 1000000 * b
 | 0,_ => by simp [preP]
 | b + 1,hb => by
   have h1 := preP_bd h (b := b) (by omega)
   have h2 := h b (by omega)
   have h3 : ∀ p,(preP m b p).length = (preP m b 0).length + p := fun p => by
     induction p with
     | zero => rfl
     | succ p ih => rw [preP_len,ih]; omega
   rw [preP_blk,h3]; omega
theorem preP_bd2 {m : D.MFunc} (h : ∀ b,b < m.Blocks.length → (ix m.Blocks b).Ins.length < 1000000) {b p : Nat} (hb : b < m.Blocks.length) (hp : p ≤ 1000000) (hn : m.Blocks.length ≤ 512) : (preP m b p).length ≤ 1000000000 := by
 have h1 := preP_bd h (b := b) (by omega)
 have h3 : ∀ p,(preP m b p).length = (preP m b 0).length + p := fun p => by
   induction p with
   | zero => rfl
   | succ p ih => rw [preP_len,ih]; omega
 rw [h3]; omega
def mostS (s : Int) (_ : Nat) (S : List Int) : Int := max s S.length
def togS (a b : Int) (s : Bool) (_ : Nat) (S : List Int) : Bool := s || (decide (a ∈ S) && decide (b ∈ S))
def mostM (m : D.MFunc) : Int := if rightM m = true then stM mostS m m.Blocks.length 0 0 else 0
def togM (m : D.MFunc) (a b : Int) : Bool := if rightM m = true then stM (togS a b) m m.Blocks.length 0 false else false
structure D.Range where
 From : Int
 To : Int
deriving DecidableEq
instance : Inhabited D.Range := ⟨⟨0,0⟩⟩
def rRange : Rp D.Range := rM (rP (rI .i64) (rI .i64)) (fun m => (m.From,m.To))
theorem rRange.open {F : PH} {v : Value} {m : D.Range} (h : rRange.ra F v m) : v = .agg #[.int .i64 m.From,.int .i64 m.To] := by
 obtain ⟨l,rfl,hl,h⟩ := h
 match l,hl with
 | [a0,a1],_ =>
   obtain ⟨⟨h0,_⟩,⟨h1,_⟩⟩ := h
   obtain rfl : a0 = _ := h0
   obtain rfl : a1 = _ := h1
   exact rfl
theorem rRange.mk {F : PH} {m : D.Range}   (w0 : IntKind.i64.wrap m.From = m.From) (w1 : IntKind.i64.wrap m.To = m.To) : rRange.ra F (.agg #[.int .i64 m.From,.int .i64 m.To]) m := ⟨[.int .i64 m.From,.int .i64 m.To],rfl,rfl,⟨⟨rfl,w0⟩,⟨rfl,w1⟩⟩⟩
structure D.Bo9 where
 In : List (List Int)
 Out : List (List Int)
deriving DecidableEq
instance : Inhabited D.Bo9 := ⟨⟨[],[]⟩⟩
def rBo9N (N : Nat) : Rp D.Bo9 := rM (rP (rLn N (rLn N (rI .i64))) (rLn N (rLn N (rI .i64)))) (fun m => (m.In,m.Out))
abbrev rBo9 : Rp D.Bo9 := rBo9N 1073741824
theorem rBo9.at_In {N : Nat} {F : PH} {b o : Nat} {m : D.Bo9} (h : At F (rBo9N N) b o m) : At F (rLn N (rLn N (rI .i64))) b (o + 0) m.In := At.part 0 h (Nat.le_of_ble_eq_true rfl) (fun _ h => h.1)
theorem rBo9.any {N : Nat} {F : PH} {v : Value} {m : D.Bo9} (h : (rBo9N N).ra F v m) : ∃ f,(rBo9N N).ok F m f := by obtain ⟨l,_,_,h⟩ := h; exact ⟨_,h⟩
theorem rBo9.open {N : Nat} {F : PH} {v : Value} {m : D.Bo9} (h : (rBo9N N).ra F v m) : ∃ c0 c1,v = .agg #[c0,c1] ∧ (rLn N (rLn N (rI .i64))).rv F c0 m.In ∧ (rLn N (rLn N (rI .i64))).rv F c1 m.Out := by
 obtain ⟨l,rfl,hl,h⟩ := h
 match l,hl with
 | [a0,a1],_ =>
   obtain ⟨h0,h1⟩ := h
   exact ⟨a0,a1,rfl,h0,h1⟩
theorem rBo9.mk {N : Nat} {F : PH} {m : D.Bo9} {c0 : Value} {c1 : Value} (h0 : (rLn N (rLn N (rI .i64))).rv F c0 m.In) (h1 : (rLn N (rLn N (rI .i64))).rv F c1 m.Out)  : (rBo9N N).ra F (.agg #[c0,c1]) m := ⟨[c0,c1],rfl,rfl,⟨h0,h1⟩⟩
@[reducible] def vRange (m : D.Range) (c : Unit) : Value := .agg #[.int .i64 m.From,.int .i64 m.To]
theorem sRange : Sr rRange vRange := ⟨fun h => ⟨(),rRange.open h⟩⟩
theorem rRange.M {Γ : List Dt} {L : List Res} {m : D.Range} {c : Unit}  (w0 : Wr Γ L .i64 m.From) (w1 : Wr Γ L .i64 m.To) : Nd Γ L (da rRange (vRange m c) m) := fun F H x y z => rRange.mk (m := m) (w0 F H x y z) (w1 F H x y z)
@[reducible] def vBo9 (m : D.Bo9) (c : Value × Value) : Value := .agg #[c.1,c.2]
theorem sBo9 {N : Nat} : Sr (rBo9N N) vBo9 := ⟨fun h => by obtain ⟨c0,c1,e,_,_⟩ := rBo9.open h; exact ⟨(c0,c1),e⟩⟩
theorem rBo9.c_In {N : Nat} {Γ : List Dt} {L : List Res} {m : D.Bo9} {c : Value × Value} (h : Nd Γ L (da (rBo9N N) (vBo9 m c) m)) : Nd Γ L (dv (rLn N (rLn N (rI .i64))) c.1 m.In) := fun F H x y z => leaf1 rfl ((ra_ok (h F H x y z)).1) rfl
theorem rBo9.A_In {N : Nat} {Γ : List Dt} {L : List Res} {b o : Nat} {m : D.Bo9} (h : Nd Γ L (ad (rBo9N N) b o m)) : Nd Γ L (ad (rLn N (rLn N (rI .i64))) b (o + 0) m.In) := fun F H x y z => rBo9.at_In (h F H x y z)
theorem rBo9.M {N : Nat} {Γ : List Dt} {L : List Res} {m : D.Bo9} {c : Value × Value} (h0 : Nd Γ L (dv (rLn N (rLn N (rI .i64))) c.1 m.In)) (h1 : Nd Γ L (dv (rLn N (rLn N (rI .i64))) c.2 m.Out))  : Nd Γ L (da (rBo9N N) (vBo9 m c) m) := fun F H x y z => rBo9.mk (m := m) (h0 F H x y z) (h1 F H x y z)
def rngS (r : Int) (l : List D.Range) (n : Nat) (S : List Int) : List D.Range :=
 if r ∈ S then (if 0 < l.length ∧ (ix l (l.length - 1)).To = n then l.set (l.length - 1) { ix l (l.length - 1) with To := (n : Int) + 1 } else l ++ [⟨(n : Int),(n : Int) + 1⟩]) else l
def rangesM (m : D.MFunc) (r : Int) : List D.Range := if rightM m = true then stM (rngS r) m m.Blocks.length 0 [] else []
theorem rngS_len (r : Int) (l : List D.Range) (n : Nat) (S : List Int) : (rngS r l n S).length ≤ l.length + 1 := by
 unfold rngS
 repeat' split
 all_goals simp
theorem stR_len {m : D.MFunc} {r : Int} {b p : Nat} : (stM (rngS r) m b p []).length ≤ (preP m b p).length := by
 unfold stM
 have h : ∀ (q : List ((Nat × Nat) × Nat)) (l : List D.Range),(q.foldl (fun s x => rngS r s x.2 (hasE m x.1.1 x.1.2)) l).length ≤ l.length + q.length := by
   intro q
   induction q with
   | nil => intro l; simp
   | cons x q ih => intro l; have h1 := ih (rngS r l x.2 (hasE m x.1.1 x.1.2)); have h2 := rngS_len r l x.2 (hasE m x.1.1 x.1.2); simp only [List.foldl_cons,List.length_cons]; omega
 have h1 := h (preP m b p).zipIdx []
 simpa using h1
theorem J4 : (Tryz.prog.info? 4).bind (·.zero) = some (.bool false) := by kernel_rfl
theorem most1_ct (n : Int) {a1 : Value} {S0 : List Int} (s : Int) {g2 : Nat} : Tr Tryz.prog 50 #[.int .i64 n,a1,.pointer (some ⟨g2,0,none⟩)] [dv rSet a1 (some S0)] [bx g2 3 [.int .i64 s]] (fun _ : Unit => .tuple #[]) (fun _ => []) (fun _ _ => [bx g2 3 [.int .i64 (max s (S0.length : Int))]]) := by
 refine jenter (args := [.int .i64 n,a1,.pointer (some ⟨g2,0,none⟩)]) Tryz.func50 rfl rfl rfl fun w0 X => ?_
 refine jr (js (jl k0 O3 Z Z) (jm Z (js (jsfl U86 d0 Z) (js (jmax Z Z) (jst k0 Z3 Z Z Z s0 (jn ?_))))))
 exact jd0 Z () Z dn (fun _ _ => (kc k0 kn))
theorem tog1_ct (n : Int) {a1 : Value} {S0 : List Int} (s : Bool) {g2 : Nat} (a : Int) {g3 : Nat} (b : Int) {g4 : Nat} : Tr Tryz.prog 48 #[.int .i64 n,a1,.pointer (some ⟨g2,0,none⟩),.pointer (some ⟨g3,0,none⟩),.pointer (some ⟨g4,0,none⟩)] [dv rSet a1 (some S0)] [bx g2 4 [.bool s],bx g3 3 [.int .i64 a],bx g4 3 [.int .i64 b]] (fun _ : Unit => .tuple #[]) (fun _ => []) (fun _ _ => [bx g2 4 [.bool (s || (decide (a ∈ S0) && decide (b ∈ S0)))],bx g3 3 [.int .i64 a],bx g4 3 [.int .i64 b]]) := by
 refine jenter (args := [.int .i64 n,a1,.pointer (some ⟨g2,0,none⟩),.pointer (some ⟨g3,0,none⟩),.pointer (some ⟨g4,0,none⟩)]) Tryz.func48 rfl rfl rfl fun w0 X => ?_
 refine jr (js (jl k0 O4 Z Z) (jm Z (jg Z Z (.f _) (fun hg => jmv Z) (jg Z Z (.f _) (fun hg => jl k1 O3 Z Z) (jg Z Z (.f _) (fun hg => jsfk U86 U3 J4 d0 (evg Z hg) (evg Z hg)) (jg Z Z (.f _) (fun hg => jmv (evg Z hg)) (jg Z Z (.gt _ _) (fun hg => jmv Z) (jg Z Z (.gt _ _) (fun hg => jl k2 O3 Z Z) (jg Z Z (.gt _ _) (fun hg => jsfk U86 U3 J4 d0 (evg Z hg) (evg Z hg)) (jg Z Z (.f _) (fun hg => jand2 hg Z Z) (js (jor Z Z) ?_)))))))))))
 refine jst k0 Z4 Z Z Z s0 (jn ?_)
 exact jd0 Z () Z dn (fun _ _ => (kd (kc k0 kn)))
abbrev U44 := @Tryz.underlying44
theorem E47 : Ent Tryz.prog 47 := ⟨_,Tryz.func47,by kernel_rfl,by kernel_rfl⟩
theorem E48 : Ent Tryz.prog 48 := ⟨_,Tryz.func48,by kernel_rfl,by kernel_rfl⟩
theorem E50 : Ent Tryz.prog 50 := ⟨_,Tryz.func50,by kernel_rfl,by kernel_rfl⟩
theorem E71 : Ent Tryz.prog 71 := ⟨_,Tryz.func71,by kernel_rfl,by kernel_rfl⟩
theorem F47_1 : Fld Tryz.prog 47 1 1 := ⟨_,_,Tryz.underlying47,rfl,rfl,1,(by unfold Sz; kernel_rfl),by decide⟩
theorem I47 : (Tryz.prog.info? 47).map (fun i => (i.zero,i.size,i.bytes)) = some (some (.agg #[.int .i64 0,.int .i64 0]),2,16) := by kernel_rfl
theorem O44 : One Tryz.prog 44 := ⟨_,Tryz.underlying44,rfl⟩
theorem Z44 : Sz Tryz.prog 44 1 := by unfold Sz; kernel_rfl
theorem Z47 : Sz Tryz.prog 47 2 := by unfold Sz; kernel_rfl
theorem rRange.S_To {Γ : List Dt} {L : List Res} {m : D.Range} {x : Int} (h : Wr Γ L .i64 x) : PO Γ L rRange m 1 [.int .i64 x] { m with To := x } := fun F H a b c f hf => ⟨⟨hf.1.1,hf.1.2⟩,⟨rfl,h F H a b c⟩⟩
theorem rng1_ct (n : Nat) {a1 : Value} {S0 : List Int} {sv : Value} {l : List D.Range} {g2 : Nat} {B2 : Nat} (r : Int) {g3 : Nat} (hnb : n ≤ 1000000000) (hlb : l.length ≤ 1000000000) : Tr Tryz.prog 47 #[.int .i64 (n : Nat),a1,.pointer (some ⟨g2,0,none⟩),.pointer (some ⟨g3,0,none⟩)] [dv rSet a1 (some S0)] [gl B2 rRange 47 sv l,bx g2 44 [sv],bx g3 3 [.int .i64 r]] (fun _ : Value => .tuple #[]) (fun _ => []) (fun _ v => [gl B2 rRange 47 v (rngS r l n S0),bx g2 44 [v],bx g3 3 [.int .i64 r]]) := by
 refine jenter (args := [.int .i64 (n : Nat),a1,.pointer (some ⟨g2,0,none⟩),.pointer (some ⟨g3,0,none⟩)]) Tryz.func47 rfl rfl rfl fun w0 X => ?_
 refine cgo k0 fun w1 => jq (jr (js (jl k1 O44 Z Z) (js (jlg U44 k0 Z) (js (jsub Z Z (by omega)) (ja Z (jn (jx (jb (jq (jr ?_))))))))))
 refine jm Z (js (jl k2 O3 Z Z) (js (jsfk U86 U3 J4 d0 Z Z) (js (jnot Z) (ja Z (jn (jx ?_))))))
 refine jif Z (fun hc1 => ?_) (fun hc1 => ?_)
 refine jsk (jbn ?_)
 have hR9 : rngS r l n S0 = l := by unfold rngS; first | (rw [if_neg (by simpa using hc1)]; done) | (rw [if_pos (by simpa using hc1),if_pos ⟨by omega,hc2.2⟩]; done) | (rw [if_pos (by simpa using hc1),if_neg (fun h9 => hc2 ⟨by omega,h9.2⟩)]; done) | (rw [if_pos (by simpa using hc1),if_neg (by omega)]; done)
 rw [hR9]
 exact jd0 Z sv Z dn (fun _ _ => (kd (kc k0 kn)))
 refine jq (jr (jm Z (js (jgeq Z Z) (jm Z (jg Z Z (.t _) (fun hg => jl k1 O44 Z Z) (jg Z Z (.t _) (fun hg => jmv Z) (jg Z Z (.t _) (fun hg => jig (i := (l.length - 1)) U44 Z47 k0 (evg Z hg) (evg Z hg) (by first | omega | (simp at hg; omega)) (by first | omega | (simp at hg; omega) | (simp only [List.length_set]; omega))) (jg Z Z (.t _) (fun hg => jf F47_1 (evg Z hg)) (jg Z Z (.t _) (fun hg => jgF (i := (l.length - 1)) (off := 1) (n := (ix l (l.length - 1)).To) k0 (by first | omega | (simp at hg; omega)) (fun _ _ h => (h.2).1) O3 (evg Z hg)) (jg Z Z (.t _) (fun hg => jmv Z) (jg Z Z (.t _) (fun hg => jeql (evg Z hg) (evg Z hg)) ?_)))))))))))
 refine js (jand Z Z) (ja Z (jn (jx ?_)))
 refine jif Z (fun hc2 => ?_) (fun hc2 => ?_)
 refine jr (js (jl k1 O44 Z Z) (jm Z (jm Z (js (jadd Z Z (by omega)) (js (jig (i := (l.length - 1)) U44 Z47 k0 Z Z (by omega) (by omega)) (js (jf F47_1 Z) (jsp (i := (l.length - 1)) (off := 1) (a := { ix l (l.length - 1) with To := ↑n + 1 }) k0 (by omega) Z3 Z (by omega) Z Z (rRange.S_To (wp (IntWalk.i64_in _ (by omega)))) (jn (jbn ?_)))))))))
 have hR9 : rngS r l n S0 = List.set l (l.length - 1) ({ ix l (l.length - 1) with To := ↑n + 1 }) := by unfold rngS; first | (rw [if_neg (by simpa using hc1)]; done) | (rw [if_pos (by simpa using hc1),if_pos ⟨by omega,hc2.2⟩]; done) | (rw [if_pos (by simpa using hc1),if_neg (fun h9 => hc2 ⟨by omega,h9.2⟩)]; done) | (rw [if_pos (by simpa using hc1),if_neg (by omega)]; done)
 rw [hR9]
 exact jd0 Z sv Z dn (fun _ _ => (kd (kc k0 kn)))
 refine jr (js (jl k1 O44 Z Z) (jm Z (jm Z (js (jadd Z Z (by omega)) (js (jbu (v := .agg #[.int .i64 (↑n),.int .i64 (↑n + 1)]) Z (fun _ => by kernel_rfl)) (jap U44 I47 (by decide) Z k0 Z (rRange.M (m := ⟨↑n,↑n + 1⟩) (c := ()) (wp (IntWalk.i64_in ↑n (by omega))) (wp (IntWalk.i64_in (↑n + 1) (by omega)))) (by omega) (fun _ => Z) fun v16 _ w2 => jst k1 Z44 Z Z w2.one s0 (jn (jbn ?_))))))))
 have hR9 : rngS r l n S0 = l ++ [⟨↑n,↑n + 1⟩] := by unfold rngS; first | (rw [if_neg (by simpa using hc1)]; done) | (rw [if_pos (by simpa using hc1),if_pos ⟨by omega,hc2.2⟩]; done) | (rw [if_pos (by simpa using hc1),if_neg (fun h9 => hc2 ⟨by omega,h9.2⟩)]; done) | (rw [if_pos (by simpa using hc1),if_neg (by omega)]; done)
 rw [hR9]
 exact jd0 Z v16 Z dn (fun _ _ => (kc k1 (kd kn)))
theorem eachMost_ct {g0 : Nat} {bv ev pv : Value} {m : D.MFunc} (s0 : Int) {h0 : Nat} (hr : rightM m = true) : Tr Tryz.prog 46 #[.pointer (some ⟨g0,0,none⟩),.func (.func 50) #[] #[.pointer (some ⟨h0,0,none⟩)]] [dv (rL rMBlock) bv m.Blocks,dv (rL rSet) ev (List.map some (loE m.Blocks)),dv (rL (rL rSet)) pv (plM m.Blocks)] [bx g0 90 [.int .i64 m.Params,bv,ev,pv],bx h0 3 [.int .i64 s0]] (fun _ : Unit => .tuple #[]) (fun _ => []) (fun _ _ => [bx g0 90 [.int .i64 m.Params,bv,ev,pv],bx h0 3 [.int .i64 (stM mostS m m.Blocks.length 0 s0)]]) := by
 refine jenter (args := [.pointer (some ⟨g0,0,none⟩),.func (.func 50) #[] #[.pointer (some ⟨h0,0,none⟩)]]) Tryz.func46 rfl rfl rfl fun w0 X => ?_
 have hw := right_wl hr
 have hq := right_ins hr
 have hn0 := (right_wf hr).n0
 have hple := plM_len (bs := m.Blocks)
 refine jq (jr (ja Z (jn (jx (jq (jr (jm Z (js (jnil Z) (js (jf F90_2 Z) (js (jl k0 O88 Z Z) (jdq d2 fun q1 w1 => ?_)))))))))))
 refine js (jln U88 d2 Z) (jm Z (jn (jx (jb ?_))))
 have h00 : (preP m 0 0).length = 0 := rfl
 refine jlp (u2 fun (b : Nat) (s : Int) => ⟨b ≤ m.Blocks.length ∧ s = stM (mostS) m b 0 s0,[dv (rL rMBlock) bv m.Blocks,dv (rL rSet) ev (List.map some (loE m.Blocks)),dv (rL (rL rSet)) pv (plM m.Blocks)],[bx g0 90 [.int .i64 m.Params,bv,ev,pv],bx h0 3 [.int .i64 s]],[(0,.pointer (some ⟨g0,0,none⟩)),(1,.func (.func 50) #[] #[.pointer (some ⟨h0,0,none⟩)]),(4,.int .i64 (↑(preP m b 0).length)),(11,.int .i64 (↑(List.length (plM m.Blocks)))),(12,.int .i64 (↑b))],m.Blocks.length - b⟩) (0,s0) ⟨by dsimp only; omega,rfl⟩ (dc d0 (dc d1 (dc d2 dn))) (kd kn) ⟨Z,Z,eqI (by dsimp only; omega),Z,eqI (by omega),trivial⟩ ?_
 rintro ⟨b,s⟩; dsimp only [u2]; rintro ⟨hb,hs⟩
 refine jq (jr (js (jlss Z Z) (jn (jx (jq ?_)))))
 refine jif Z (fun hc1 => ?_) (fun hc1 => ?_)
 refine jsk (jx (jq (jb (jq (jr (jm Z (ja Z (jn (jx (jq (jr ?_)))))))))))
 refine jm Z (js (jnil Z) (js (jf F90_2 Z) (js (jl k0 O88 Z Z) (jm Z (js (jix U88 Z87 d2 Z Z Z (by omega)) (jev (jlV (dix d2 b (by omega)) O87 Z Z) fun v21 q2 w2 => js (jln U87 d0 Z) (jm Z (jn (jx (jb ?_))))))))))
 have hbb : b < m.Blocks.length := by omega
 have hqb := hq b hbb
 have hpll := pl_len (bs := m.Blocks) hbb
 refine jlp (u2 fun (p : Nat) (s2 : Int) => ⟨p ≤ (ix m.Blocks b).Ins.length + 1 ∧ s2 = stM (mostS) m b p s0,[dv (rL rMBlock) bv m.Blocks,dv (rL rSet) ev (List.map some (loE m.Blocks)),dv (rL (rL rSet)) pv (plM m.Blocks)],[bx g0 90 [.int .i64 m.Params,bv,ev,pv],bx h0 3 [.int .i64 s2]],[(0,.pointer (some ⟨g0,0,none⟩)),(1,.func (.func 50) #[] #[.pointer (some ⟨h0,0,none⟩)]),(4,.int .i64 (↑(preP m b p).length)),(5,.int .i64 (↑b)),(11,.int .i64 (↑(List.length (plM m.Blocks)))),(12,.int .i64 (↑b)),(22,.int .i64 (↑(List.length (ix (plM m.Blocks) b)))),(23,.int .i64 (↑p))],(ix m.Blocks b).Ins.length + 1 - p⟩) (0,s) ⟨by dsimp only; omega,hs⟩ (dc d1 (dc d2 (dc d3 dn))) (kd kn) ⟨Z,Z,Z,Z,Z,Z,Z,eqI (by omega),trivial⟩ ?_
 rintro ⟨p,s2⟩; dsimp only [u2]; rintro ⟨hp,hs2⟩
 have hpb := preP_bd2 hq (b := b) (p := p) hbb (by omega) (by omega)
 refine jq (jr (js (jlss Z Z) (jn (jx (jq ?_)))))
 refine jif Z (fun hc2 => ?_) (fun hc2 => ?_)
 have hpp : p ≤ (ix m.Blocks b).Ins.length := by omega
 refine jsk (jx (jq (jb (jq (jr (jm Z (ja Z (jn (jx (jq (jr ?_)))))))))))
 refine jm Z (jm Z (jm Z (jm Z (jm Z (jc E71 Z Z (liveHas_ct (m := m) b p hr hbb hpp) (dc d0 (dc d1 (dc d2 dn))) (kc k0 kn) (fun _ => p0) (fun _ => p2) fun g31 => jfs k1 (jc E50 Z Z (most1_ct _ _) (dc d0 dn) (kc k1 kn) (fun _ => p0) (fun _ => p1) fun _ => jn (jx (jr (jm Z ?_)))))))))
 refine js (jadd Z Z (by omega)) (ja Z (jn (jbn (jx (jr (js (jadd Z Z (by omega)) (jm Z (jn ?_))))))))
 have hpl := preP_len (m := m) (b := b) (p := p)
 exact jag (p + 1,max s2 ((hasE m b p).length : Int)) ⟨by dsimp only; omega,by dsimp only; rw [stM_next,← hs2]; try rfl⟩ (dc d1 (dc d2 (dc d3 dn))) (kc k1 (kc k0 kn)) ⟨Z,Z,eqI (by dsimp only; omega),Z,Z,Z,Z,eqI (by omega),trivial⟩
 refine jex (jtx (jtx (jbh (jbn (jx (jr (js (jadd Z Z (by omega)) (jm Z (jn ?_)))))))))
 have hpe : p = (ix m.Blocks b).Ins.length + 1 := by omega
 have hpl : (preP m (b + 1) 0).length = (preP m b p).length := by rw [preP_blk,hpe]
 exact jag (b + 1,s2) ⟨by dsimp only; omega,by dsimp only; rw [stM_blk,← hpe]; exact hs2⟩ (dc d0 (dc d1 (dc d2 dn))) (kd kn) ⟨Z,Z,eqI (by dsimp only; omega),Z,eqI (by omega),trivial⟩
 refine jex (jtx (jtx (jbh ?_)))
 have hb9 : b = m.Blocks.length := by omega
 subst hb9
 subst hs
 exact jd0 Z () Z dn (fun _ _ => (kd kn))
theorem eachTog_ct {g0 : Nat} {bv ev pv : Value} {m : D.MFunc} (s0 : Bool) {h0 : Nat} (a : Int) {h1 : Nat} (c : Int) {h2 : Nat} (hr : rightM m = true) : Tr Tryz.prog 46 #[.pointer (some ⟨g0,0,none⟩),.func (.func 48) #[] #[.pointer (some ⟨h0,0,none⟩),.pointer (some ⟨h1,0,none⟩),.pointer (some ⟨h2,0,none⟩)]] [dv (rL rMBlock) bv m.Blocks,dv (rL rSet) ev (List.map some (loE m.Blocks)),dv (rL (rL rSet)) pv (plM m.Blocks)] [bx g0 90 [.int .i64 m.Params,bv,ev,pv],bx h0 4 [.bool s0],bx h1 3 [.int .i64 a],bx h2 3 [.int .i64 c]] (fun _ : Unit => .tuple #[]) (fun _ => []) (fun _ _ => [bx g0 90 [.int .i64 m.Params,bv,ev,pv],bx h0 4 [.bool (stM (togS a c) m m.Blocks.length 0 s0)],bx h1 3 [.int .i64 a],bx h2 3 [.int .i64 c]]) := by
 refine jenter (args := [.pointer (some ⟨g0,0,none⟩),.func (.func 48) #[] #[.pointer (some ⟨h0,0,none⟩),.pointer (some ⟨h1,0,none⟩),.pointer (some ⟨h2,0,none⟩)]]) Tryz.func46 rfl rfl rfl fun w0 X => ?_
 have hw := right_wl hr
 have hq := right_ins hr
 have hn0 := (right_wf hr).n0
 have hple := plM_len (bs := m.Blocks)
 refine jq (jr (ja Z (jn (jx (jq (jr (jm Z (js (jnil Z) (js (jf F90_2 Z) (js (jl k0 O88 Z Z) (jdq d2 fun q1 w1 => ?_)))))))))))
 refine js (jln U88 d2 Z) (jm Z (jn (jx (jb ?_))))
 have h00 : (preP m 0 0).length = 0 := rfl
 refine jlp (u2 fun (b : Nat) (s : Bool) => ⟨b ≤ m.Blocks.length ∧ s = stM (togS a c) m b 0 s0,[dv (rL rMBlock) bv m.Blocks,dv (rL rSet) ev (List.map some (loE m.Blocks)),dv (rL (rL rSet)) pv (plM m.Blocks)],[bx g0 90 [.int .i64 m.Params,bv,ev,pv],bx h0 4 [.bool s],bx h1 3 [.int .i64 a],bx h2 3 [.int .i64 c]],[(0,.pointer (some ⟨g0,0,none⟩)),(1,.func (.func 48) #[] #[.pointer (some ⟨h0,0,none⟩),.pointer (some ⟨h1,0,none⟩),.pointer (some ⟨h2,0,none⟩)]),(4,.int .i64 (↑(preP m b 0).length)),(11,.int .i64 (↑(List.length (plM m.Blocks)))),(12,.int .i64 (↑b))],m.Blocks.length - b⟩) (0,s0) ⟨by dsimp only; omega,rfl⟩ (dc d0 (dc d1 (dc d2 dn))) (kd (kd kn)) ⟨Z,Z,eqI (by dsimp only; omega),Z,eqI (by omega),trivial⟩ ?_
 rintro ⟨b,s⟩; dsimp only [u2]; rintro ⟨hb,hs⟩
 refine jq (jr (js (jlss Z Z) (jn (jx (jq ?_)))))
 refine jif Z (fun hc1 => ?_) (fun hc1 => ?_)
 refine jsk (jx (jq (jb (jq (jr (jm Z (ja Z (jn (jx (jq (jr ?_)))))))))))
 refine jm Z (js (jnil Z) (js (jf F90_2 Z) (js (jl k0 O88 Z Z) (jm Z (js (jix U88 Z87 d2 Z Z Z (by omega)) (jev (jlV (dix d2 b (by omega)) O87 Z Z) fun v21 q2 w2 => js (jln U87 d0 Z) (jm Z (jn (jx (jb ?_))))))))))
 have hbb : b < m.Blocks.length := by omega
 have hqb := hq b hbb
 have hpll := pl_len (bs := m.Blocks) hbb
 refine jlp (u2 fun (p : Nat) (s2 : Bool) => ⟨p ≤ (ix m.Blocks b).Ins.length + 1 ∧ s2 = stM (togS a c) m b p s0,[dv (rL rMBlock) bv m.Blocks,dv (rL rSet) ev (List.map some (loE m.Blocks)),dv (rL (rL rSet)) pv (plM m.Blocks)],[bx g0 90 [.int .i64 m.Params,bv,ev,pv],bx h0 4 [.bool s2],bx h1 3 [.int .i64 a],bx h2 3 [.int .i64 c]],[(0,.pointer (some ⟨g0,0,none⟩)),(1,.func (.func 48) #[] #[.pointer (some ⟨h0,0,none⟩),.pointer (some ⟨h1,0,none⟩),.pointer (some ⟨h2,0,none⟩)]),(4,.int .i64 (↑(preP m b p).length)),(5,.int .i64 (↑b)),(11,.int .i64 (↑(List.length (plM m.Blocks)))),(12,.int .i64 (↑b)),(22,.int .i64 (↑(List.length (ix (plM m.Blocks) b)))),(23,.int .i64 (↑p))],(ix m.Blocks b).Ins.length + 1 - p⟩) (0,s) ⟨by dsimp only; omega,hs⟩ (dc d1 (dc d2 (dc d3 dn))) (kd (kd kn)) ⟨Z,Z,Z,Z,Z,Z,Z,eqI (by omega),trivial⟩ ?_
 rintro ⟨p,s2⟩; dsimp only [u2]; rintro ⟨hp,hs2⟩
 have hpb := preP_bd2 hq (b := b) (p := p) hbb (by omega) (by omega)
 refine jq (jr (js (jlss Z Z) (jn (jx (jq ?_)))))
 refine jif Z (fun hc2 => ?_) (fun hc2 => ?_)
 have hpp : p ≤ (ix m.Blocks b).Ins.length := by omega
 refine jsk (jx (jq (jb (jq (jr (jm Z (ja Z (jn (jx (jq (jr ?_)))))))))))
 refine jm Z (jm Z (jm Z (jm Z (jm Z (jc E71 Z Z (liveHas_ct (m := m) b p hr hbb hpp) (dc d0 (dc d1 (dc d2 dn))) (kc k0 kn) (fun _ => p0) (fun _ => p2) fun g31 => jfs k1 (jc E48 Z Z (tog1_ct _ _ _ _) (dc d0 dn) (kc k1 (kc k1 (kc k1 kn))) (fun _ => p0) (fun _ => p3) fun _ => jn (jx (jr (jm Z ?_)))))))))
 refine js (jadd Z Z (by omega)) (ja Z (jn (jbn (jx (jr (js (jadd Z Z (by omega)) (jm Z (jn ?_))))))))
 have hpl := preP_len (m := m) (b := b) (p := p)
 exact jag (p + 1,s2 || (decide (a ∈ hasE m b p) && decide (c ∈ hasE m b p))) ⟨by dsimp only; omega,by dsimp only; rw [stM_next,← hs2]; try rfl⟩ (dc d1 (dc d2 (dc d3 dn))) (kc k3 (kd (kc k0 kn))) ⟨Z,Z,eqI (by dsimp only; omega),Z,Z,Z,Z,eqI (by omega),trivial⟩
 refine jex (jtx (jtx (jbh (jbn (jx (jr (js (jadd Z Z (by omega)) (jm Z (jn ?_)))))))))
 have hpe : p = (ix m.Blocks b).Ins.length + 1 := by omega
 have hpl : (preP m (b + 1) 0).length = (preP m b p).length := by rw [preP_blk,hpe]
 exact jag (b + 1,s2) ⟨by dsimp only; omega,by dsimp only; rw [stM_blk,← hpe]; exact hs2⟩ (dc d0 (dc d1 (dc d2 dn))) (kd (kd kn)) ⟨Z,Z,eqI (by dsimp only; omega),Z,eqI (by omega),trivial⟩
 refine jex (jtx (jtx (jbh ?_)))
 have hb9 : b = m.Blocks.length := by omega
 subst hb9
 subst hs
 exact jd0 Z () Z dn (fun _ _ => (kd (kd kn)))
theorem eachRng_ct {g0 : Nat} {bv ev pv : Value} {m : D.MFunc} {sv : Value} {l0 : List D.Range} {h0 : Nat} {C0 : Nat} (r : Int) {h1 : Nat} (hr : rightM m = true) (hl0 : l0 = []) : Tr Tryz.prog 46 #[.pointer (some ⟨g0,0,none⟩),.func (.func 47) #[] #[.pointer (some ⟨h0,0,none⟩),.pointer (some ⟨h1,0,none⟩)]] [dv (rL rMBlock) bv m.Blocks,dv (rL rSet) ev (List.map some (loE m.Blocks)),dv (rL (rL rSet)) pv (plM m.Blocks)] [bx g0 90 [.int .i64 m.Params,bv,ev,pv],gl C0 rRange 47 sv l0,bx h0 44 [sv],bx h1 3 [.int .i64 r]] (fun _ : Value => .tuple #[]) (fun _ => []) (fun _ v => [bx g0 90 [.int .i64 m.Params,bv,ev,pv],gl C0 rRange 47 v (stM (rngS r) m m.Blocks.length 0 l0),bx h0 44 [v],bx h1 3 [.int .i64 r]]) := by
 refine jenter (args := [.pointer (some ⟨g0,0,none⟩),.func (.func 47) #[] #[.pointer (some ⟨h0,0,none⟩),.pointer (some ⟨h1,0,none⟩)]]) Tryz.func46 rfl rfl rfl fun w0 X => ?_
 refine cgo k1 fun w1 => ?_
 have hw := right_wl hr
 have hq := right_ins hr
 have hn0 := (right_wf hr).n0
 have hple := plM_len (bs := m.Blocks)
 refine jq (jr (ja Z (jn (jx (jq (jr (jm Z (js (jnil Z) (js (jf F90_2 Z) (js (jl k0 O88 Z Z) (jdq d2 fun q2 w2 => ?_)))))))))))
 refine js (jln U88 d2 Z) (jm Z (jn (jx (jb ?_))))
 have h00 : (preP m 0 0).length = 0 := rfl
 refine jlp (u3 fun (b : Nat) (s : List D.Range) (sv1 : Value) => ⟨b ≤ m.Blocks.length ∧ s = stM (rngS r) m b 0 l0,[dv (rL rMBlock) bv m.Blocks,dv (rL rSet) ev (List.map some (loE m.Blocks)),dv (rL (rL rSet)) pv (plM m.Blocks)],[bx g0 90 [.int .i64 m.Params,bv,ev,pv],gl C0 rRange 47 sv1 s,bx h0 44 [sv1],bx h1 3 [.int .i64 r]],[(0,.pointer (some ⟨g0,0,none⟩)),(1,.func (.func 47) #[] #[.pointer (some ⟨h0,0,none⟩),.pointer (some ⟨h1,0,none⟩)]),(4,.int .i64 (↑(preP m b 0).length)),(11,.int .i64 (↑(List.length (plM m.Blocks)))),(12,.int .i64 (↑b))],m.Blocks.length - b⟩) (0,l0,sv) ⟨by dsimp only; omega,rfl⟩ (dc d0 (dc d1 (dc d2 dn))) (kd (kd kn)) ⟨Z,Z,eqI (by dsimp only; omega),Z,eqI (by omega),trivial⟩ ?_
 rintro ⟨b,s,sv1⟩; dsimp only [u3]; rintro ⟨hb,hs⟩
 refine cgo k1 fun w3 => jq (jr (js (jlss Z Z) (jn (jx (jq ?_)))))
 refine jif Z (fun hc1 => ?_) (fun hc1 => ?_)
 refine jsk (jx (jq (jb (jq (jr (jm Z (ja Z (jn (jx (jq (jr ?_)))))))))))
 refine jm Z (js (jnil Z) (js (jf F90_2 Z) (js (jl k0 O88 Z Z) (jm Z (js (jix U88 Z87 d2 Z Z Z (by omega)) (jev (jlV (dix d2 b (by omega)) O87 Z Z) fun v21 q4 w4 => js (jln U87 d0 Z) (jm Z (jn (jx (jb ?_))))))))))
 have hbb : b < m.Blocks.length := by omega
 have hqb := hq b hbb
 have hpll := pl_len (bs := m.Blocks) hbb
 refine jlp (u3 fun (p : Nat) (s2 : List D.Range) (sv2 : Value) => ⟨p ≤ (ix m.Blocks b).Ins.length + 1 ∧ s2 = stM (rngS r) m b p l0,[dv (rL rMBlock) bv m.Blocks,dv (rL rSet) ev (List.map some (loE m.Blocks)),dv (rL (rL rSet)) pv (plM m.Blocks)],[bx g0 90 [.int .i64 m.Params,bv,ev,pv],gl C0 rRange 47 sv2 s2,bx h0 44 [sv2],bx h1 3 [.int .i64 r]],[(0,.pointer (some ⟨g0,0,none⟩)),(1,.func (.func 47) #[] #[.pointer (some ⟨h0,0,none⟩),.pointer (some ⟨h1,0,none⟩)]),(4,.int .i64 (↑(preP m b p).length)),(5,.int .i64 (↑b)),(11,.int .i64 (↑(List.length (plM m.Blocks)))),(12,.int .i64 (↑b)),(22,.int .i64 (↑(List.length (ix (plM m.Blocks) b)))),(23,.int .i64 (↑p))],(ix m.Blocks b).Ins.length + 1 - p⟩) (0,s,sv1) ⟨by dsimp only; omega,hs⟩ (dc d1 (dc d2 (dc d3 dn))) (kd (kd kn)) ⟨Z,Z,Z,Z,Z,Z,Z,eqI (by omega),trivial⟩ ?_
 rintro ⟨p,s2,sv2⟩; dsimp only [u3]; rintro ⟨hp,hs2⟩
 refine cgo k1 fun w6 => ?_
 have hpb := preP_bd2 hq (b := b) (p := p) hbb (by omega) (by omega)
 refine jq (jr (js (jlss Z Z) (jn (jx (jq ?_)))))
 refine jif Z (fun hc2 => ?_) (fun hc2 => ?_)
 have hpp : p ≤ (ix m.Blocks b).Ins.length := by omega
 refine jsk (jx (jq (jb (jq (jr (jm Z (ja Z (jn (jx (jq (jr ?_)))))))))))
 refine jm Z (jm Z (jm Z (jm Z (jm Z (jc E71 Z Z (liveHas_ct (m := m) b p hr hbb hpp) (dc d0 (dc d1 (dc d2 dn))) (kc k0 kn) (fun _ => p0) (fun _ => p2) fun g31 => jfs k1 (jc E47 Z Z (rng1_ct _ _ hpb (by rw [hs2,hl0]; exact Nat.le_trans stR_len hpb)) (dc d0 dn) (kc k1 (kc k1 (kc k1 kn))) (fun _ => p0) (fun _ => p3) fun sw8 => jn (jx (jr (jm Z ?_)))))))))
 refine js (jadd Z Z (by omega)) (ja Z (jn (jbn (jx (jr (js (jadd Z Z (by omega)) (jm Z (jn ?_))))))))
 have hpl := preP_len (m := m) (b := b) (p := p)
 exact jag (p + 1,rngS r s2 (preP m b p).length (hasE m b p),sw8) ⟨by dsimp only; omega,by dsimp only; rw [stM_next,← hs2]; try rfl⟩ (dc d1 (dc d2 (dc d3 dn))) (kc k3 (kd (kc k0 kn))) ⟨Z,Z,eqI (by dsimp only; omega),Z,Z,Z,Z,eqI (by omega),trivial⟩
 refine jex (jtx (jtx (jbh (jbn (jx (jr (js (jadd Z Z (by omega)) (jm Z (jn ?_)))))))))
 have hpe : p = (ix m.Blocks b).Ins.length + 1 := by omega
 have hpl : (preP m (b + 1) 0).length = (preP m b p).length := by rw [preP_blk,hpe]
 exact jag (b + 1,s2,sv2) ⟨by dsimp only; omega,by dsimp only; rw [stM_blk,← hpe]; exact hs2⟩ (dc d0 (dc d1 (dc d2 dn))) (kd (kd kn)) ⟨Z,Z,eqI (by dsimp only; omega),Z,eqI (by omega),trivial⟩
 refine jex (jtx (jtx (jbh ?_)))
 have hb9 : b = m.Blocks.length := by omega
 subst hb9
 subst hs
 exact jd0 Z sv1 Z dn (fun _ _ => (kd (kd kn)))
theorem E46 : Ent Tryz.prog 46 := ⟨_,Tryz.func46,by kernel_rfl,by kernel_rfl⟩
theorem J3 : (Tryz.prog.info? 3).bind (·.zero) = some (.int .i64 0) := by kernel_rfl
theorem J44 : (Tryz.prog.info? 44).bind (·.zero) = some (.slice none 0 0) := by kernel_rfl
theorem most_ct {a0 : Value} {m : D.MFunc} : Tv Tryz.prog 24 #[vMFunc m a0] [da rMFunc (vMFunc m a0) m] [] (.int .i64 (mostM m)) := by
 refine jenter (args := [vMFunc m a0]) Tryz.func24 rfl rfl rfl fun w0 X => ?_
 refine jq (jr (jbox Z Z fun g1 => ja Z (jn (jx (jq (jr (jalc J3 Z fun g3 => jst k0 Z3 Z Z Z s0 (jn (jx ?_)))))))))
 refine jq (jq (jr (js (jla k1 A28 Z28 Z Z Z) ?_)))
 refine Bool.casesOn (motive := fun b => rightM m = b → _) (rightM m) (fun hr => ?_) (fun hr => ?_) rfl
 refine jc E40 Z Z (of_no hr) (dc d0 dn) kn (fun _ => p0) (fun _ => p0) fun _ => ja Z (jn (jx (jq (jr (jm Z (js (jneqP U91 Z Z) (jn (jx ?_))))))))
 refine jif Z (fun hc1 => ?_) (fun hc1 => ?_)
 exact absurd hc1 (by simp)
 refine jsk (jx (jq (jr (js (jl k0 O3 Z Z) (ja Z (jn (jx (jrt ?_))))))))
 exact jrI Z Z (by first | (rw [mostM,if_pos hr]; done) | (rw [mostM,if_neg (by simp [hr])]; done))
 refine jc E40 Z Z (of_ct hr) (dc d0 dn) kn (fun _ => p2) (fun _ => p1) fun c6 => ?_
 have hw := right_wl hr
 have hq := right_ins hr
 have hn0 := (right_wf hr).n0
 have hnP := (right_wf hr).p0
 have hple := plM_len (bs := m.Blocks)
 have hlol := loE_len hw
 have hlm : (List.map some (loE m.Blocks)).length = m.Blocks.length := by rw [List.length_map]; exact hlol
 refine ja Z (jn (jx (jq (jr (jm Z (js (jneqP U91 Z Z) (jn (jx ?_))))))))
 refine jif Z (fun hc2 => ?_) (fun hc2 => ?_)
 refine jr (jm Z (js (jmf1 Z) (jc E46 Z Z (eachMost_ct 0 hr) (dc (rMFunc.cB d2) (dc d0 (dc d1 dn))) (kd kn) (fun _ => p0) (fun _ => p2) fun _ => jn (jx (jq (jr (js (jl k1 O3 Z Z) (ja Z (jn (jx ?_))))))))))
 refine jrt ?_
 exact jrI Z Z (by first | (rw [mostM,if_pos hr]; done) | (rw [mostM,if_neg (by simp [hr])]; done))
 exact absurd hc2 (by simp)
theorem together_ct {a0 : Value} {m : D.MFunc} (a : Int) (b : Int) : Tv Tryz.prog 22 #[vMFunc m a0,.int .i64 a,.int .i64 b] [da rMFunc (vMFunc m a0) m] [] (.bool (togM m a b)) := by
 refine jenter (args := [vMFunc m a0,.int .i64 a,.int .i64 b]) Tryz.func22 rfl rfl rfl fun w0 X => ?_
 refine jq (jr (jbox Z Z fun g3 => jbox Z Z fun g4 => jbox Z Z fun g5 => ja Z (jn (jx (jq (jr (jalc J4 Z fun g7 => jst k0 Z4 Z Z Z s0 ?_)))))))
 refine jn (jx (jq (jq (jr (js (jla k3 A28 Z28 Z Z Z) ?_)))))
 refine Bool.casesOn (motive := fun b => rightM m = b → _) (rightM m) (fun hr => ?_) (fun hr => ?_) rfl
 refine jc E40 Z Z (of_no hr) (dc d0 dn) kn (fun _ => p0) (fun _ => p0) fun _ => ja Z (jn (jx (jq (jr (jm Z (js (jneqP U91 Z Z) (jn (jx ?_))))))))
 refine jif Z (fun hc1 => ?_) (fun hc1 => ?_)
 exact absurd hc1 (by simp)
 refine jsk (jx (jq (jr (js (jl k0 O4 Z Z) (ja Z (jn (jx (jrt ?_))))))))
 exact jrB Z Z (by first | (rw [togM,if_pos hr]; done) | (rw [togM,if_neg (by simp [hr])]; done))
 refine jc E40 Z Z (of_ct hr) (dc d0 dn) kn (fun _ => p2) (fun _ => p1) fun c10 => ?_
 have hw := right_wl hr
 have hq := right_ins hr
 have hn0 := (right_wf hr).n0
 have hnP := (right_wf hr).p0
 have hple := plM_len (bs := m.Blocks)
 have hlol := loE_len hw
 have hlm : (List.map some (loE m.Blocks)).length = m.Blocks.length := by rw [List.length_map]; exact hlol
 refine ja Z (jn (jx (jq (jr (jm Z (js (jneqP U91 Z Z) (jn (jx ?_))))))))
 refine jif Z (fun hc2 => ?_) (fun hc2 => ?_)
 refine jr (jm Z (js (jmf3 Z Z Z) (jc E46 Z Z (eachTog_ct false a b hr) (dc (rMFunc.cB d2) (dc d0 (dc d1 dn))) (kd (kc k1 (kc k0 kn))) (fun _ => p0) (fun _ => p4) fun _ => jn (jx (jq (jr (js (jl k1 O4 Z Z) (ja Z (jn (jx ?_))))))))))
 refine jrt ?_
 exact jrB Z Z (by first | (rw [togM,if_pos hr]; done) | (rw [togM,if_neg (by simp [hr])]; done))
 exact absurd hc2 (by simp)
theorem ranges_ct {a0 : Value} {m : D.MFunc} (r : Int) : Td Tryz.prog 21 #[vMFunc m a0,.int .i64 r] [da rMFunc (vMFunc m a0) m] [] (rL rRange) (rangesM m r) := by
 refine jenter (args := [vMFunc m a0,.int .i64 r]) Tryz.func21 rfl rfl rfl fun w0 X => ?_
 refine jq (jr (jbox Z Z fun g2 => jbox Z Z fun g3 => jalc J44 Z fun g4 => jn (jx (jq (jr (js (jla k2 A28 Z28 Z Z Z) ?_))))))
 refine Bool.casesOn (motive := fun b => rightM m = b → _) (rightM m) (fun hr => ?_) (fun hr => ?_) rfl
 refine jc E40 Z Z (of_no hr) (dc d0 dn) kn (fun _ => p0) (fun _ => p0) fun _ => ja Z (jn (jx (jq (jq (jr (jm Z (js (jeqlP U91 Z Z) (jn (jx ?_)))))))))
 refine jif Z (fun hc1 => ?_) (fun hc1 => ?_)
 refine jq (jr (jst k0 Z44 Z Z Z s0 (jn (jx (jrt (jtr ?_))))))
 exact jrcD Z Z k0 O44 (by first | (rw [rangesM,if_pos hr]; done) | (rw [rangesM,if_neg (by simp [hr])]; done)) wN
 exact absurd hc1 (by simp)
 refine jc E40 Z Z (of_ct hr) (dc d0 dn) kn (fun _ => p2) (fun _ => p1) fun c7 => ?_
 have hw := right_wl hr
 have hq := right_ins hr
 have hn0 := (right_wf hr).n0
 have hnP := (right_wf hr).p0
 have hple := plM_len (bs := m.Blocks)
 have hlol := loE_len hw
 have hlm : (List.map some (loE m.Blocks)).length = m.Blocks.length := by rw [List.length_map]; exact hlol
 refine ja Z (jn (jx (jq (jq (jr (jm Z (js (jeqlP U91 Z Z) (jn (jx ?_)))))))))
 refine jif Z (fun hc2 => ?_) (fun hc2 => ?_)
 exact absurd hc2 (by simp)
 refine jsk (jx (jq (jr (jm Z (jnl (r := rRange) (E := 47) (js (jmf2 Z Z) (jc E46 Z Z (eachRng_ct r hr rfl) (dc (rMFunc.cB d2) (dc d0 (dc d1 dn))) (kc k1 (kd (kc k0 kn))) (fun _ => p0) (fun _ => p4) fun sw3 => jgo k1 fun w4 => jn (jx (jq ?_)))))))))
 refine jr (js (jl k2 O44 Z Z) (jst k2 Z44 Z Z w4.one s0 (jn (jx (jrt (qfz k2 (by have := stR_len (m := m) (r := r) (b := m.Blocks.length) (p := 0); have := preP_bd hq (b := m.Blocks.length) (by omega); omega) ?_))))))
 exact jrcD Z Z k0 O44 (by first | (rw [rangesM,if_pos hr]; done) | (rw [rangesM,if_neg (by simp [hr])]; done)) d0
def hasL (l : List Int) (r : Int) : Bool := decide (r ∈ l)
theorem has_no {l : List Int} {r : Int} (h : ∀ j,j < l.length → ¬ ix l j = r) : hasL l r = false := decide_eq_false fun h9 => by
 obtain ⟨j,hj,e⟩ := List.getElem_of_mem h9
 exact h j hj (by rw [ix_eq hj]; exact e)
theorem has_yes {l : List Int} {r : Int} {j : Nat} (hj : j < l.length) (h : ix l j = r) : hasL l r = true := decide_eq_true (by rw [← h]; exact ix_mem hj)
def inM (fr r : Int) (y : D.In) : Bool := decide (y.From = fr) && decide (y.Val = r)
def phiA (l : List D.Phi) (fr r : Int) : Bool := l.any (fun p => p.In.any (inM fr r))
def phiD (l : List D.Phi) (r : Int) : Bool := l.any (fun p => decide (p.Dst = r))
theorem phiA_iff {x : D.MBlock} {fr r : Int} : phiA x.Phis fr r = decide (r ∈ phiT x fr) := by
 unfold phiA phiT
 rw [Bool.eq_iff_iff,List.any_eq_true,decide_eq_true_eq,List.mem_flatMap]
 constructor
 · rintro ⟨p,hp,h⟩
   rw [List.any_eq_true] at h
   obtain ⟨y,hy,h⟩ := h
   unfold inM at h
   simp only [Bool.and_eq_true,decide_eq_true_eq] at h
   exact ⟨p,hp,List.mem_map.2 ⟨y,List.mem_filter.2 ⟨hy,by simpa using h.1⟩,h.2⟩⟩
 · rintro ⟨p,hp,h⟩
   obtain ⟨y,hy,e⟩ := List.mem_map.1 h
   obtain ⟨h1,h2⟩ := List.mem_filter.1 hy
   refine ⟨p,hp,List.any_eq_true.2 ⟨y,h1,?_⟩⟩
   unfold inM; simp only [Bool.and_eq_true,decide_eq_true_eq]
   exact ⟨by simpa using h2,e⟩
theorem phiD_iff {x : D.MBlock} {r : Int} : phiD x.Phis r = decide (r ∈ dsts x) := by
 unfold phiD dsts
 rw [Bool.eq_iff_iff,List.any_eq_true,decide_eq_true_eq,List.mem_map]
 simp only [decide_eq_true_eq]
def edgeB (bs : List D.MBlock) (os : List Bool) (b : Nat) (to r : Int) : Bool :=
 phiA (ix bs to.toNat).Phis b r || (backB (ix bs to.toNat) 0 r (ix os to.toNat) && !phiD (ix bs to.toNat).Phis r)
structure OS9 (bs : List D.MBlock) (r : Int) (os : List Bool) : Prop where
 n : os.length = bs.length
 s : ∀ b,b < bs.length → ix os b = true → LO bs b r
theorem edgeB_lo {bs : List D.MBlock} {r : Int} {os : List Bool} (h : OS9 bs r os) (hw : WL bs) {b : Nat} (hb : b < bs.length) {to : Int} (ht : to ∈ (ix bs b).End.To) (he : edgeB bs os b to r = true) : LO bs b r := by
 unfold edgeB at he
 rw [phiA_iff,phiD_iff,Bool.or_eq_true,Bool.and_eq_true,Bool.not_eq_true',decide_eq_true_eq,decide_eq_false_iff_not] at he
 rcases he with he | ⟨h1,h2⟩
 · exact .phi ht he
 · rcases backB_or h1 with h3 | ⟨h3,h4⟩
   · exact .gen ht h2 h3
   · exact .thru ht h2 h4 (h.s _ (hw.t hb to ht) h3)
theorem OS9.set {bs : List D.MBlock} {r : Int} {os : List Bool} (h : OS9 bs r os) (hw : WL bs) {b : Nat} (hb : b < bs.length) {to : Int} (ht : to ∈ (ix bs b).End.To) (he : edgeB bs os b to r = true) : OS9 bs r (os.set b true) where
 n := by rw [List.length_set]; exact h.n
 s := fun j hj h2 => by
   rw [ix_set (by rw [h.n]; exact hb)] at h2
   split at h2
   · rename_i e; subst e; exact edgeB_lo h hw hb ht he
   · exact h.s j hj h2
theorem OS9.done {bs : List D.MBlock} {r : Int} {os : List Bool} (h : OS9 bs r os) (hw : WL bs) (hc : ∀ b,b < bs.length → ix os b = false → ∀ to ∈ (ix bs b).End.To,edgeB bs os b to r = false) {b : Nat} (hL : LO bs b r) : b < bs.length → ix os b = true := by
 have key : ∀ {b : Nat} {to : Int},b < bs.length → to ∈ (ix bs b).End.To → edgeB bs os b to r = true → ix os b = true := fun {b to} hb ht he => by
   cases h9 : ix os b with
   | true => rfl
   | false => rw [hc b hb h9 to ht] at he; cases he
 induction hL with
 | @phi b to r ht h1 => exact fun hb => key hb ht (by unfold edgeB; rw [phiA_iff,decide_eq_true h1,Bool.true_or])
 | @gen b to r ht h1 h2 => exact fun hb => key hb ht (by
     unfold edgeB; rw [phiD_iff,decide_eq_false h1,backB_up (fun h => by cases h) h2]; simp)
 | @thru b to r ht h1 h2 _ ih => exact fun hb => key hb ht (by
     unfold edgeB; rw [phiD_iff,decide_eq_false h1,ih h hc key (hw.t hb to ht),h2]; simp)
def outsM (m : D.MFunc) (r : Int) : List Bool := (List.range m.Blocks.length).map (fun b => decide (r ∈ ix (loE m.Blocks) b))
theorem outs_len {m : D.MFunc} {r : Int} : (outsM m r).length = m.Blocks.length := by simp [outsM]
theorem outs_ix {m : D.MFunc} {r : Int} {b : Nat} (hb : b < m.Blocks.length) : ix (outsM m r) b = decide (r ∈ ix (loE m.Blocks) b) := by
 rw [ix_eq (by rw [outs_len]; exact hb)]; simp [outsM]
theorem OS9.eq {m : D.MFunc} {r : Int} {os : List Bool} (h : OS9 m.Blocks r os) (hw : WL m.Blocks) (hc : ∀ b,b < m.Blocks.length → ix os b = false → ∀ to ∈ (ix m.Blocks b).End.To,edgeB m.Blocks os b to r = false) : os = outsM m r := by
 refine List.ext_getElem (by rw [h.n,outs_len]) fun j h1 h2 => ?_
 have hj : j < m.Blocks.length := by rw [← h.n]; exact h1
 have e1 := outs_ix (r := r) hj
 rw [ix_eq h2] at e1
 rw [e1,Bool.eq_iff_iff,decide_eq_true_eq,loE_mem hw hj,← ix_eq h1]
 exact ⟨h.s j hj,fun h9 => h.done hw hc h9 hj⟩
def cntO : List Bool → Nat
 | [] => 0
 | x :: l => (if x = true then 1 else 0) + cntO l
theorem cntO_set : ∀ {l : List Bool} {b : Nat},b < l.length → ix l b = false → cntO (l.set b true) = cntO l + 1
 | [],b,h,_ => by cases h
 | x :: l,0,_,h => by
   have h' : x = false := h
   subst h'; simp [cntO]; omega
 | x :: l,b + 1,h,h2 => by
   have h3 := cntO_set (l := l) (b := b) (by simpa using h) (by simpa [ix] using h2)
   rw [List.set_cons_succ,cntO,h3,cntO]; omega
structure RD (bs : List D.MBlock) (r : Int) (p : Nat) (c : Bool) (t0 : Nat) (os : List Bool) : Prop where
 o : OS9 bs r os
 le : t0 ≤ cntO os
 lt : c = true → t0 < cntO os
 fx : c = false → ∀ j,j < p → ix os j = false → ∀ to ∈ (ix bs j).End.To,edgeB bs os j to r = false
theorem RD.beg {bs : List D.MBlock} {r : Int} {os : List Bool} (h : OS9 bs r os) : RD bs r 0 false (cntO os) os := ⟨h,Nat.le_refl _,fun h => (by cases h),fun _ j h1 => by omega⟩
theorem RD.set {bs : List D.MBlock} {r : Int} {p t0 : Nat} {c : Bool} {os : List Bool} (h : RD bs r p c t0 os) (hw : WL bs) (hp : p < bs.length) (h0 : ix os p = false) {to : Int} (ht : to ∈ (ix bs p).End.To) (he : edgeB bs os p to r = true) : RD bs r p true t0 (os.set p true) := by
 have h1 := cntO_set (l := os) (b := p) (by rw [h.o.n]; exact hp) h0
 have := h.le
 exact ⟨h.o.set hw hp ht he,by omega,fun _ => by omega,fun h => by cases h⟩
theorem RD.next {bs : List D.MBlock} {r : Int} {p t0 : Nat} {c : Bool} {os : List Bool} (h : RD bs r p c t0 os) (hn : c = false → ix os p = false → ∀ to ∈ (ix bs p).End.To,edgeB bs os p to r = false) : RD bs r (p + 1) c t0 os :=
 ⟨h.o,h.le,h.lt,fun hc j hj h0 => by
   rcases Nat.lt_or_ge j p with h9 | h9
   · exact h.fx hc j h9 h0
   · have e : j = p := by omega
     subst e; exact hn hc h0⟩
theorem OS9.beg {bs : List D.MBlock} {r : Int} : OS9 bs r (List.replicate bs.length false) := ⟨by simp,fun b hb h => by rw [ix_eq (by simpa using hb)] at h; simp at h⟩
theorem mem_ix {α : Type} [Inhabited α] {l : List α} {P : α → Prop} (h : ∀ k,k < l.length → P (ix l k)) : ∀ x ∈ l,P x := fun x hx => by
 obtain ⟨j,hj,e⟩ := List.getElem_of_mem hx
 have := h j hj; rw [ix_eq hj,e] at this; exact this
theorem lawIn_ct {a0 : Value} {l : List Int} (r : Int) : Tv Tryz.prog 28 #[a0,.int .i64 r] [dv (rL (rI .i64)) a0 l] [] (.bool (hasL l r)) := by
 refine jenter (args := [a0,.int .i64 r]) Tryz.func28 rfl rfl rfl fun w0 X => ?_
 refine jq (jr (ja Z (jn (jx (jq (jq (jr (ja Z (jn (jx (jb ?_)))))))))))
 refine jlp (fun (k : Nat) => ⟨k ≤ l.length ∧ ∀ j,j < k → ¬ ix l j = r,[dv (rL (rI .i64)) a0 l],[],[(0,a0),(1,.int .i64 r),(5,.int .i64 (↑k))],l.length - k⟩) 0 ⟨by omega,fun j hj => by omega⟩ (dc d0 dn) kn ⟨Z,Z,eqI (by omega),trivial⟩ ?_
 rintro k; dsimp only; rintro ⟨hk,hno⟩
 refine jq (jq (jr (jm Z (jm Z (jdq d0 fun q1 w1 => js (jln U22 d0 Z) (js (jlss Z Z) (jn (jx ?_))))))))
 refine jif Z (fun hc1 => ?_) (fun hc1 => ?_)
 refine jsk (jx (jq (jb (jq (jr (jm Z (jm Z (js (jix U22 Z3 d0 Z Z Z (by omega)) (js (jlI (dix d0 k (by omega)) O3 Z) (jm Z (js (jeql Z Z) ?_)))))))))))
 refine jn (jx ?_)
 refine jif Z (fun hc2 => ?_) (fun hc2 => ?_)
 refine jq (jr (ja Z (jn (jx (jrt (jbr (jtr (jtr (jbr (jtr ?_))))))))))
 exact jrB Z Z (by first | (exact has_yes (by omega) hc2) | (exact has_no (fun j hj => hno j (by omega))))
 refine jsk (jbn (jx (jr (jm Z (js (jadd Z Z (by omega)) (ja Z (jn ?_)))))))
 exact jag (k + 1) ⟨by omega,fun j hj => by rcases Nat.lt_or_ge j k with h7 | h7; (exact hno j h7); (rw [show j = k by omega]; exact hc2)⟩ (dc d0 dn) kn ⟨Z,Z,eqI (by omega),trivial⟩
 refine jex (jtx (jtx (jbh (jx (jq (jr (ja Z (jn (jx (jrt ?_))))))))))
 exact jrB Z Z (by first | (exact has_yes (by omega) hc2) | (exact has_no (fun j hj => hno j (by omega))))
set_option maxRecDepth 4000
end Go.Proofs.YtehhjlkmbdhckaaGreat
namespace Go.Proofs.YtehhjlkmbdhckaaGreat
open Go.JE
def phiB (p : D.Phi) : List Int := p.Dst :: p.In.map (fun y => y.Val)
def insB (i : D.Mach) : List Int := takesM i ++ makesM i
def regB (x : D.MBlock) : List Int := nM9 x.End ++ x.Phis.flatMap phiB ++ x.Ins.flatMap insB
def parB (m : D.MFunc) : List Int := (List.range (Int.toNat m.Params)).map (fun k : Nat => (k : Int))
def regA (m : D.MFunc) : List Int := parB m ++ m.Blocks.flatMap regB
def regsM (m : D.MFunc) : List Int := ((List.range 8192).filter (fun k : Nat => decide ((k : Int) ∈ regA m))).map (fun k : Nat => (k : Int))
structure MK (P : List Int) (mk : List Bool) : Prop where
 n : mk.length = 8192
 s : ∀ k : Nat,k < 8192 → ix mk k = decide ((k : Int) ∈ P)
theorem MK.beg : MK [] (List.replicate 8192 false) := ⟨List.length_replicate,fun k hk => by rw [ix_eq (by rw [List.length_replicate]; exact hk),List.getElem_replicate]; exact (decide_eq_false (fun h => by cases h)).symm⟩
theorem MK.set {P : List Int} {mk : List Bool} {r : Int} (h : MK P mk) (hr : Rg r) : MK (P ++ [r]) (mk.set (Int.toNat r) true) := by
 unfold Rg at hr
 refine ⟨by rw [List.length_set]; exact h.n,fun k hk => ?_⟩
 rw [ix_set (by rw [h.n]; omega)]
 split
 · rename_i e
   rw [eq_comm,decide_eq_true_eq,List.mem_append]; right; simp; omega
 · rename_i e
   rw [h.s k hk,decide_eq_decide,List.mem_append]
   constructor
   · exact .inl
   · rintro (h9 | h9)
     · exact h9
     · simp at h9; omega
theorem MK.of {P P' : List Int} {mk : List Bool} (h : MK P mk) (e : P = P') : MK P' mk := e ▸ h
theorem filt_next {f : Nat → Bool} {k : Nat} : ((List.range (k + 1)).filter f).map (fun k : Nat => (k : Int)) = ((List.range k).filter f).map (fun k : Nat => (k : Int)) ++ if f k = true then [(k : Int)] else [] := by
 rw [List.range_succ,List.filter_append,List.map_append]
 congr 1
 by_cases h : f k = true
 · simp [h]
 · simp [h]
theorem flat_len {α β : Type} {f : α → List β} {c : Nat} : ∀ {l : List α},(∀ x ∈ l,(f x).length ≤ c) → (l.flatMap f).length ≤ c * l.length
 | [],_ => by simp
 | x :: l,h => by
   have h1 := flat_len (l := l) (fun y hy => h y (by simp [hy]))
   have h2 := h x (by simp)
   rw [List.flatMap_cons,List.length_append,List.length_cons,Nat.mul_add]; omega
theorem flat_next {α β : Type} [Inhabited α] {f : α → List β} {l : List α} {k : Nat} (h : k < l.length) : (l.take (k + 1)).flatMap f = (l.take k).flatMap f ++ f (ix l k) := by
 rw [take_ix h,List.flatMap_append]; simp
theorem cntB_mem2 : ∀ {l : List D.MBlock} {x : D.MBlock},x ∈ l → (x.Phis.length : Int) + x.Ins.length ≤ cntB l
 | y :: l,x,h => by
   have h0 : 0 ≤ cntB l := by cases l with | nil => exact Int.le_refl _ | cons z l => exact (cntB_mem (x := z) (by simp)).2
   rw [cntB]
   rcases List.mem_cons.1 h with rfl | h
   · omega
   · have := cntB_mem2 h; omega
section
variable {m : D.MFunc} {b : Nat}
theorem right_phis (h : rightM m = true) (hb : b < m.Blocks.length) : (ix m.Blocks b).Phis.length ≤ 16384 ∧ (ix m.Blocks b).Ins.length ≤ 16384 := by
 have h1 := cntB_mem2 (ix_mem (l := m.Blocks) hb)
 have h2 := (right_none h).2
 omega
theorem right_in (h : rightM m = true) (hb : b < m.Blocks.length) : ∀ p ∈ (ix m.Blocks b).Phis,p.In.length ≤ 512 := fun p hp => by
 have hW := right_wf h
 have h1 := (hW.phi b hb p hp).2.1
 have h2 : (predsM m.Blocks b).length ≤ m.Blocks.length := by
   unfold predsM predsT
   rw [List.length_map]
   exact Nat.le_trans (List.length_filter_le _ _) (by simp)
 have h3 := congrArg List.length h1
 rw [List.length_map] at h3
 have := hW.n0
 omega
theorem takes_len {i : D.Mach} (h : i.Op = 28 → i.Args.length ≤ 4) : (takesM i).length ≤ 4 := by
 unfold takesM
 repeat' split
 all_goals first | (rename_i h9; exact h h9) | simp
theorem makes_len {i : D.Mach} : (makesM i).length ≤ 2 := by
 unfold makesM
 repeat' split
 all_goals simp
theorem needs_len {e : D.End} : (nM9 e).length ≤ 2 := by
 unfold nM9
 repeat' split
 all_goals simp
theorem phiB_len (h : rightM m = true) (hb : b < m.Blocks.length) (k : Nat) : (((ix m.Blocks b).Phis.take k).flatMap phiB).length ≤ 513 * 16384 := by
 have h1 := flat_len (f := phiB) (c := 513) (l := (ix m.Blocks b).Phis.take k) (fun p hp => by have := right_in h hb p (List.mem_of_mem_take hp); simp [phiB]; omega)
 have h2 := (right_phis h hb).1
 rw [List.length_take] at h1
 have : min k (ix m.Blocks b).Phis.length ≤ 16384 := by omega
 have := Nat.mul_le_mul_left 513 this
 omega
theorem insB_len (h : rightM m = true) (hb : b < m.Blocks.length) (k : Nat) : (((ix m.Blocks b).Ins.take k).flatMap insB).length ≤ 6 * 16384 := by
 have h1 := flat_len (f := insB) (c := 6) (l := (ix m.Blocks b).Ins.take k) (fun i hi => by
   have h3 := takes_len (i := i) (fun h28 => ((right_wf h).ins _ (ix_mem hb) i (List.mem_of_mem_take hi) h28).2.2.1)
   have h4 := makes_len (i := i)
   simp only [insB,List.length_append]; omega)
 have h2 := (right_phis h hb).2
 rw [List.length_take] at h1
 have : min k (ix m.Blocks b).Ins.length ≤ 16384 := by omega
 have := Nat.mul_le_mul_left 6 this
 omega
theorem regB_rg (h : rightM m = true) (hb : b < m.Blocks.length) : ∀ r ∈ regB (ix m.Blocks b),Rg r := fun r hr => by
 obtain ⟨h1,h2,h3⟩ := (right_wl h).rg b hb
 unfold regB at hr
 rw [List.mem_append,List.mem_append] at hr
 rcases hr with (hr | hr) | hr
 · exact h2 r hr
 · obtain ⟨p,hp,hr⟩ := List.mem_flatMap.1 hr
   rcases List.mem_cons.1 hr with rfl | hr
   · exact (h3 p hp).1
   · obtain ⟨y,hy,rfl⟩ := List.mem_map.1 hr
     exact (h3 p hp).2 y hy
 · obtain ⟨i,hi,hr⟩ := List.mem_flatMap.1 hr
   rcases List.mem_append.1 hr with hr | hr
   · exact (h1 i hi).1 r hr
   · exact (h1 i hi).2 r hr
theorem bk_regs {r : Int} {x : D.MBlock} {p : Nat} (h : backB x p r false = true) : r ∈ regB x := by
 have h1 := bkB_or h
 unfold regB
 have key : ∀ {l : List D.Mach},bkB r l false = true → r ∈ l.flatMap insB := by
   intro l
   induction l with
   | nil => intro h; cases h
   | cons i l ih =>
     intro h
     rw [bkB] at h
     rw [List.flatMap_cons,List.mem_append]
     split at h
     · rename_i h2; left; exact List.mem_append.2 (.inl h2)
     · split at h
       · cases h
       · exact .inr (ih h)
 rcases h1 with h1 | ⟨h1,_⟩
 · have h2 := key h1
   obtain ⟨i,hi,h3⟩ := List.mem_flatMap.1 h2
   exact List.mem_append.2 (.inr (List.mem_flatMap.2 ⟨i,List.mem_of_mem_drop hi,h3⟩))
 · exact List.mem_append.2 (.inl (List.mem_append.2 (.inl (by simpa using h1))))
theorem regB_A {r : Int} (hb : b < m.Blocks.length) (h : r ∈ regB (ix m.Blocks b)) : r ∈ regA m := List.mem_append.2 (.inr (List.mem_flatMap.2 ⟨_,ix_mem hb,h⟩))
theorem LO.regs (hw : WL m.Blocks) {r : Int} (h : LO m.Blocks b r) : b < m.Blocks.length → r ∈ regA m := by
 induction h with
 | @phi b to r ht h1 =>
     intro hb
     refine regB_A (hw.t hb to ht) ?_
     obtain ⟨p,hp,h2⟩ := List.mem_flatMap.1 h1
     obtain ⟨y,hy,e⟩ := List.mem_map.1 h2
     exact List.mem_append.2 (.inl (List.mem_append.2 (.inr (List.mem_flatMap.2 ⟨p,hp,List.mem_cons.2 (.inr (List.mem_map.2 ⟨y,(List.mem_filter.1 hy).1,e⟩))⟩))))
 | @gen b to r ht h1 h2 => exact fun hb => regB_A (hw.t hb to ht) (bk_regs h2)
 | @thru b to r ht h1 h2 _ ih => exact fun hb => ih (hw.t hb to ht)
theorem at_regs (hw : WL m.Blocks) (hb : b < m.Blocks.length) {p : Nat} {r : Int} (h : r ∈ atE m.Blocks b p) : r ∈ regA m := by
 unfold atE at h
 rw [sAt_back] at h
 rcases backB_or h with h1 | ⟨h1,_⟩
 · exact regB_A hb (bk_regs h1)
 · exact LO.regs hw ((loE_mem hw hb).1 (by simpa using h1)) hb
theorem regs_mem {r : Int} : r ∈ regsM m ↔ Rg r ∧ r ∈ regA m := by
 unfold regsM Rg
 rw [List.mem_map]
 constructor
 · rintro ⟨k,hk,rfl⟩
   obtain ⟨h1,h2⟩ := List.mem_filter.1 hk
   rw [List.mem_range] at h1
   exact ⟨by omega,by simpa using h2⟩
 · rintro ⟨h1,h2⟩
   refine ⟨Int.toNat r,List.mem_filter.2 ⟨by rw [List.mem_range]; omega,?_⟩,by omega⟩
   rw [show ((Int.toNat r : Nat) : Int) = r by omega]; simpa using h2
theorem regs_len : (regsM m).length ≤ 8192 := by
 unfold regsM
 rw [List.length_map]
 exact Nat.le_trans (List.length_filter_le _ _) (by simp)
end
set_option maxRecDepth 4000
theorem rNeedsG_ct {a0 : Value} {e : D.End} : Tg Tryz.prog 43 #[vEnd e a0] [da rEnd (vEnd e a0) e] [] (rI .i64) 3 (nM9 e) := by
 refine jenter (args := [vEnd e a0]) Tryz.func43 rfl rfl rfl fun w0 X => ?_
 refine jq (jr (jbox Z Z fun g1 => ja Z (jn (jx (jq (jq (jr (js (jf F35_0 Z) (js (jl k0 O3 Z Z) (jn ?_))))))))))
 refine jx (jb (jq (jq (jr (js (jeql Z Z) (ja Z (jn (jx ?_))))))))
 refine jif Z (fun hc1 => ?_) (fun hc1 => ?_)
 refine jsk (jx ?_)
 refine jif Z (fun hc2 => ?_) (fun hc2 => ?_)
 refine jq (jr (js (jf F35_1 Z) (js (jl k0 O3 Z Z) (jlit (r := (rI .i64)) (l := [e.A]) U22 I3 (by decide) Z Z Z (lV Z Z (wI (rEnd.W_A d0)) ln) fun g10 => ja Z (jn (jx (jrt (jbr (jtr ?_)))))))))
 exact jrG Z Z (by first | (simp [nM9,hc1,hc2]; done) | (unfold nM9; (repeat' split) <;> first | rfl | (exfalso; omega) | (simp [nM9,hc1,hc2]; done))) k0
 exact absurd hc2 (by simp [hc1])
 refine jr (js (jeql Z Z) (ja Z (jn (jx ?_))))
 refine jif Z (fun hc3 => ?_) (fun hc3 => ?_)
 refine jq (jr (js (jf F35_1 Z) (js (jl k0 O3 Z Z) (jlit (r := (rI .i64)) (l := [e.A]) U22 I3 (by decide) Z Z Z (lV Z Z (wI (rEnd.W_A d0)) ln) fun g10_1 => ja Z (jn (jx (jrt (jbr (jtr ?_)))))))))
 exact jrG Z Z (by first | (simp [nM9,hc1,hc3]; done) | (unfold nM9; (repeat' split) <;> first | rfl | (exfalso; omega) | (simp [nM9,hc1,hc3]; done))) k0
 refine jq (jq (jr (js (jeql Z Z) (ja Z (jn (jx ?_))))))
 refine jif Z (fun hc4 => ?_) (fun hc4 => ?_)
 refine jsk (jx ?_)
 refine jif Z (fun hc5 => ?_) (fun hc5 => ?_)
 refine jq (jr (js (jf F35_1 Z) (js (jl k0 O3 Z Z) (js (jf F35_2 Z) (js (jl k0 O3 Z Z) (jlit (r := (rI .i64)) (l := [e.A,e.B]) U22 I3 (by decide) Z Z Z (lV Z Z (wI (rEnd.W_A d0)) (lV Z Z (wI (rEnd.W_B d0)) ln)) fun g19 => ja Z (jn (jx (jrt (jbr ?_))))))))))
 refine jtr ?_
 exact jrG Z Z (by first | (simp [nM9,hc1,hc3,hc4,hc5]; done) | (unfold nM9; (repeat' split) <;> first | rfl | (exfalso; omega) | (simp [nM9,hc1,hc3,hc4,hc5]; done))) k0
 exact absurd hc5 (by simp [hc1,hc3,hc4])
 refine jq (jr (js (jeql Z Z) (ja Z (jn (jx ?_)))))
 refine jif Z (fun hc6 => ?_) (fun hc6 => ?_)
 refine jsk (jx ?_)
 refine jif Z (fun hc7 => ?_) (fun hc7 => ?_)
 refine jq (jr (js (jf F35_1 Z) (js (jl k0 O3 Z Z) (js (jf F35_2 Z) (js (jl k0 O3 Z Z) (jlit (r := (rI .i64)) (l := [e.A,e.B]) U22 I3 (by decide) Z Z Z (lV Z Z (wI (rEnd.W_A d0)) (lV Z Z (wI (rEnd.W_B d0)) ln)) fun g19_2 => ja Z (jn (jx (jrt (jbr ?_))))))))))
 refine jtr ?_
 exact jrG Z Z (by first | (simp [nM9,hc1,hc3,hc4,hc6,hc7]; done) | (unfold nM9; (repeat' split) <;> first | rfl | (exfalso; omega) | (simp [nM9,hc1,hc3,hc4,hc6,hc7]; done))) k0
 exact absurd hc7 (by simp [hc1,hc3,hc4,hc6])
 refine jr (js (jeql Z Z) (ja Z (jn (jx ?_))))
 refine jif Z (fun hc8 => ?_) (fun hc8 => ?_)
 refine jq (jr (js (jf F35_1 Z) (js (jl k0 O3 Z Z) (js (jf F35_2 Z) (js (jl k0 O3 Z Z) (jlit (r := (rI .i64)) (l := [e.A,e.B]) U22 I3 (by decide) Z Z Z (lV Z Z (wI (rEnd.W_A d0)) (lV Z Z (wI (rEnd.W_B d0)) ln)) fun g19_3 => ja Z (jn (jx (jrt (jbr ?_))))))))))
 refine jtr ?_
 exact jrG Z Z (by first | (simp [nM9,hc1,hc3,hc4,hc6,hc8]; done) | (unfold nM9; (repeat' split) <;> first | rfl | (exfalso; omega) | (simp [nM9,hc1,hc3,hc4,hc6,hc8]; done))) k0
 refine jq (jr (js (jeql Z Z) (ja Z (jn (jx ?_)))))
 refine jif Z (fun hc9 => ?_) (fun hc9 => ?_)
 refine jq (jr (js (jf F35_1 Z) (js (jl k0 O3 Z Z) (js (jgeq Z Z) (jn (jx ?_))))))
 refine jif Z (fun hc10 => ?_) (fun hc10 => ?_)
 refine jq (jr (js (jf F35_1 Z) (js (jl k0 O3 Z Z) (jlit (r := (rI .i64)) (l := [e.A]) U22 I3 (by decide) Z Z Z (lV Z Z (wI (rEnd.W_A d0)) ln) fun g27 => ja Z (jn (jx (jrt (jbr (jtr ?_)))))))))
 exact jrG Z Z (by first | (simp [nM9,hc1,hc3,hc4,hc6,hc8,hc9,hc10]; done) | (unfold nM9; (repeat' split) <;> first | rfl | (exfalso; omega) | (simp [nM9,hc1,hc3,hc4,hc6,hc8,hc9,hc10]; done))) k0
 refine jsk (jbn (jx (jq (jr (ja Z (jn (jx (jrt (qnl (r := (rI .i64)) (E := 3) ?_)))))))))
 exact jrG Z Z (by first | (simp [nM9,hc1,hc3,hc4,hc6,hc8,hc9,hc10]; done) | (unfold nM9; (repeat' split) <;> first | rfl | (exfalso; omega) | (simp [nM9,hc1,hc3,hc4,hc6,hc8,hc9,hc10]; done))) k0
 refine jsk (jbn (jx (jq (jr (ja Z (jn (jx (jrt (qnl (r := (rI .i64)) (E := 3) ?_)))))))))
 exact jrG Z Z (by first | (simp [nM9,hc1,hc3,hc4,hc6,hc8,hc9]; done) | (unfold nM9; (repeat' split) <;> first | rfl | (exfalso; omega) | (simp [nM9,hc1,hc3,hc4,hc6,hc8,hc9]; done))) k0
theorem regs_ct {a0 : Value} {m : D.MFunc} (hr : rightM m = true) : Td Tryz.prog 20 #[vMFunc m a0] [da rMFunc (vMFunc m a0) m] [] (rL (rI .i64)) (regsM m) := by
 refine jenter (args := [vMFunc m a0]) Tryz.func20 rfl rfl rfl fun w0 X => ?_
 have hw := right_wl hr
 have hn0 := (right_wf hr).n0
 have hnP := (right_wf hr).p0
 refine jq (jr (jbox Z Z fun g1 => ja Z (jn (jx (jq (jr (jmk (m := 8192) (r := rB) U93 I4 Z Z Z Z Z (by omega) wB Z fun g14 => ja Z (jn (jx ?_)))))))))
 refine jq (jq (jr (ja Z (jn (jx (jb ?_))))))
 refine jlp (u2 fun (i : Nat) (m1 : List Bool) => ⟨i ≤ Int.toNat m.Params ∧ MK ((List.range i).map (fun k : Nat => (k : Int))) m1,[da rMFunc (vMFunc m a0) m],[gl X.n rB 4 (.slice (some ⟨g14,0,none⟩) 8192 8192) m1,bx g1 28 [.int .i64 m.Params,a0]],[(1,.pointer (some ⟨g1,0,none⟩)),(2,.slice none 0 0),(3,(.slice (some ⟨g14,0,none⟩) 8192 8192)),(4,.int .i64 (↑i))],Int.toNat m.Params - i⟩) (0,List.replicate 8192 false) ⟨by dsimp only; omega,MK.beg⟩ (dc d0 dn) (kd kn) ⟨Z,Z,Z,eqI (by omega),trivial⟩ ?_
 rintro ⟨i,m1⟩; dsimp only [u2]; rintro ⟨hi,hm1⟩
 have hl1 := hm1.n
 refine jq (jq (jr (jm Z (js (jf F28_0 Z) (js (jl k1 O3 Z Z) (js (jlss Z Z) (jn (jx ?_))))))))
 refine jif Z (fun hc1 => ?_) (fun hc1 => ?_)
 refine jsk (jx (jq (jb (jr (jm Z (jm Z (js (jig U93 Z4 k0 Z Z Z (by omega)) (jsg k0 Z Z4 Z Z Z (by omega) wB (jn (jbn (jx ?_)))))))))))
 refine jr (jm Z (js (jadd Z Z (by omega)) (ja Z (jn ?_))))
 exact jag (i + 1,List.set m1 i true) ⟨by dsimp only; omega,by dsimp only; exact (hm1.set (r := (i : Int)) (by unfold Rg; omega)).of (by rw [List.range_succ,List.map_append]; rfl)⟩ (dc d0 dn) (kd kn) ⟨Z,Z,Z,eqI (by omega),trivial⟩
 refine jex (jtx (jtx (jbh (jx (jq (jq (jr (ja Z (jn (jx (jb ?_)))))))))))
 have hm19 : MK (parB m) m1 := hm1.of (by rw [show i = Int.toNat m.Params by omega]; rfl)
 refine jlp (u2 fun (b : Nat) (m2 : List Bool) => ⟨b ≤ m.Blocks.length ∧ MK (parB m ++ (m.Blocks.take b).flatMap regB) m2,[da rMFunc (vMFunc m a0) m],[gl X.n rB 4 (.slice (some ⟨g14,0,none⟩) 8192 8192) m2,bx g1 28 [.int .i64 m.Params,a0]],[(1,.pointer (some ⟨g1,0,none⟩)),(2,.slice none 0 0),(3,(.slice (some ⟨g14,0,none⟩) 8192 8192)),(5,.int .i64 (↑b))],m.Blocks.length - b⟩) (0,m1) ⟨by dsimp only; omega,by dsimp only; exact hm19.of (by simp)⟩ (dc d0 dn) (kd kn) ⟨Z,Z,Z,eqI (by omega),trivial⟩ ?_
 rintro ⟨b,m2⟩; dsimp only [u2]; rintro ⟨hb,hm2⟩
 have hl2 := hm2.n
 refine jq (jq (jr (jm Z (js (jf F28_1 Z) (js (jl k1 O26 Z Z) (jdq (rMFunc.cB d0) fun q1 w1 => js (jln U26 (rMFunc.cB d0) Z) (js (jlss Z Z) (jn (jx ?_)))))))))
 refine jif Z (fun hc2 => ?_) (fun hc2 => ?_)
 refine jsk (jx (jq (jb (jq (jr (js (jf F28_1 Z) (js (jl k1 O26 Z Z) (jm Z (js (jix U26 Z37 (rMFunc.cB d0) Z Z Z (by omega)) (js (jf F37_2 Z) (jA sEnd (jlA (rMBlock.A_End (dix (rMFunc.cB d0) b (by omega))) A35 Z35 Z) fun c36 => ?_)))))))))))
 refine jcg E43 Z Z rNeedsG_ct (dc d0 dn) kn fun v37 w3 => ja Z (jn (jx (jq (jq (jr (ja Z (jn (jx (jb ?_)))))))))
 have hbb : b < m.Blocks.length := by omega
 have hnl := needs_len (e := (ix m.Blocks b).End)
 have hpk := right_phis hr hbb
 refine jlp (u3 fun (k : Nat) (l3 : List Int) (v3 : Value) => ⟨k ≤ (ix m.Blocks b).Phis.length ∧ l3 = nM9 (ix m.Blocks b).End ++ ((ix m.Blocks b).Phis.take k).flatMap phiB,[da rMFunc (vMFunc m a0) m],[gl X.n (rI .i64) 3 v3 l3,gl X.n rB 4 (.slice (some ⟨g14,0,none⟩) 8192 8192) m2,bx g1 28 [.int .i64 m.Params,a0]],[(1,.pointer (some ⟨g1,0,none⟩)),(2,.slice none 0 0),(3,(.slice (some ⟨g14,0,none⟩) 8192 8192)),(5,.int .i64 (↑b)),(6,v3),(7,.int .i64 (↑k))],(ix m.Blocks b).Phis.length - k⟩) (0,nM9 ((ix m.Blocks b).End),v37) ⟨by dsimp only; omega,by dsimp only; simp⟩ (dc d1 dn) (kd (kc k0 kn)) ⟨Z,Z,Z,Z,Z,eqI (by omega),trivial⟩ ?_
 rintro ⟨k,l3,v3⟩; dsimp only [u3]; rintro ⟨hk,hl3⟩
 refine cgo k0 fun w4 => ?_
 have hl3l : l3.length ≤ 9000000 := by have := phiB_len hr hbb k; rw [hl3,List.length_append]; omega
 refine jq (jq (jr (jm Z (js (jf F28_1 Z) (js (jl k2 O26 Z Z) (jm Z (js (jix U26 Z37 (rMFunc.cB d0) Z Z Z (by omega)) (js (jf F37_0 Z) (jev (jlV (rMBlock.A_Phis (dix (rMFunc.cB d0) b (by omega))) O32 Z Z) fun v44 q5 w5 => js (jln U32 d0 Z) (js (jlss Z Z) ?_))))))))))
 refine jn (jx ?_)
 refine jif Z (fun hc3 => ?_) (fun hc3 => ?_)
 refine jsk (jx (jq (jb (jq (jr (js (jf F28_1 Z) (js (jl k2 O26 Z Z) (jm Z (js (jix U26 Z37 (rMFunc.cB d1) Z Z Z (by omega)) (js (jf F37_0 Z) (jev (jlV (rMBlock.A_Phis (dix (rMFunc.cB d1) b (by omega))) O32 Z Z) fun v54 q7 w7 => ?_)))))))))))
 refine jm Z (js (jix U32 Z62 d0 Z Z Z (by omega)) (jA sPhi (jlA (dix d0 k (by omega)) A62 Z62 Z) fun c57 => jalc J62 Z fun g8 => jdq (rPhi.c_In d0) fun q10 w10 => jsta k0 Z62 Z Z Z ⟨Z,w10.one,trivial⟩ (saf Z) (jn (jx (jq (jr (jm Z (js (jf F62_0 Z) ?_))))))))
 refine js (jl k0 O3 Z Z) (japv U22 I3 (by decide) Z Z k1 Z (wI (rPhi.W_Dst d0)) (by omega) (fun _ => Z) fun v62 _ w11 => ja Z (jn (jx (jq (jr (ja Z (jn (jx (jb ?_)))))))))
 have hkk : k < (ix m.Blocks b).Phis.length := by omega
 have hin := right_in hr hbb _ (ix_mem hkk)
 refine jlp (u3 fun (j : Nat) (l4 : List Int) (v4 : Value) => ⟨j ≤ (ix (ix m.Blocks b).Phis k).In.length ∧ l4 = l3 ++ ((ix (ix m.Blocks b).Phis k).Dst :: ((ix (ix m.Blocks b).Phis k).In.take j).map (fun y => y.Val)),[da rPhi (vPhi (ix ((ix m.Blocks b).Phis) k) c57) (ix ((ix m.Blocks b).Phis) k),da rMFunc (vMFunc m a0) m],[gl X.n (rI .i64) 3 v4 l4,bx g8 62 [.int .i64 ((ix ((ix m.Blocks b).Phis) k).Dst),c57],gl X.n rB 4 (.slice (some ⟨g14,0,none⟩) 8192 8192) m2,bx g1 28 [.int .i64 m.Params,a0]],[(1,.pointer (some ⟨g1,0,none⟩)),(2,.slice none 0 0),(3,(.slice (some ⟨g14,0,none⟩) 8192 8192)),(5,.int .i64 (↑b)),(6,v4),(7,.int .i64 (↑k)),(8,.pointer (some ⟨g8,0,none⟩)),(9,.int .i64 (↑j))],(ix (ix m.Blocks b).Phis k).In.length - j⟩) (0,l3 ++ [(ix ((ix m.Blocks b).Phis) k).Dst],v62) ⟨by dsimp only; omega,rfl⟩ (dc d0 (dc d3 dn)) (kd (kd kn)) ⟨Z,Z,Z,Z,Z,Z,Z,eqI (by omega),trivial⟩ ?_
 rintro ⟨j,l4,v4⟩; dsimp only [u3]; rintro ⟨hj,hl4⟩
 refine cgo k0 fun w12 => ?_
 have hl4l : l4.length ≤ 9001000 := by rw [hl4]; simp only [List.length_append,List.length_cons,List.length_map,List.length_take]; omega
 refine jq (jq (jr (jm Z (js (jf F62_1 Z) (js (jl k1 O60 Z Z) (js (jln U60 (rPhi.c_In d0) Z) (js (jlss Z Z) (jn (jx ?_)))))))))
 refine jif Z (fun hc4 => ?_) (fun hc4 => ?_)
 refine jsk (jx (jq (jb (jr (jm Z (js (jf F62_1 Z) (js (jl k1 O60 Z Z) (jm Z (js (jix U60 Z64 (rPhi.c_In d0) Z Z Z (by omega)) (js (jf F64_1 Z) (js (jlI (rIn.A_Val (dix (rPhi.c_In d0) j (by omega))) O3 Z) ?_)))))))))))
 refine japv U22 I3 (by decide) Z Z k0 Z (wI (wad (rIn.A_Val (dix (rPhi.c_In d0) j (by omega))))) (by omega) (fun _ => Z) fun v78 _ w13 => ja Z (jn (jbn (jx (jr (jm Z (js (jadd Z Z (by omega)) (ja Z (jn ?_))))))))
 exact jag (j + 1,l4 ++ [(ix ((ix ((ix m.Blocks b).Phis) k).In) j).Val],v78) ⟨by dsimp only; omega,by dsimp only; rw [hl4,take_ix (by omega),List.map_append,← List.cons_append,List.append_assoc]; rfl⟩ (dc d0 (dc d1 dn)) (kd (kd kn)) ⟨Z,Z,Z,Z,Z,Z,Z,eqI (by omega),trivial⟩
 refine jex (jtx (jtx (jbh (jbn (jx (jr (jm Z (js (jadd Z Z (by omega)) (ja Z (jn ?_))))))))))
 exact jag (k + 1,l4,v4) ⟨by dsimp only; omega,by dsimp only; rw [hl4,hl3,List.take_of_length_le (l := (ix (ix m.Blocks b).Phis k).In) (by omega),flat_next (by omega),List.append_assoc]; rfl⟩ (dc d1 dn) (kc k0 (kc k1 (kc k1 kn))) ⟨Z,Z,Z,Z,Z,eqI (by omega),trivial⟩
 refine jex (jtx (jtx (jbh (jx (jq (jq (jr (ja Z (jn (jx (jb ?_)))))))))))
 refine jlp (u3 fun (i5 : Nat) (l5 : List Int) (v5 : Value) => ⟨i5 ≤ (ix m.Blocks b).Ins.length ∧ l5 = nM9 (ix m.Blocks b).End ++ (ix m.Blocks b).Phis.flatMap phiB ++ ((ix m.Blocks b).Ins.take i5).flatMap insB,[da rMFunc (vMFunc m a0) m],[gl X.n (rI .i64) 3 v5 l5,gl X.n rB 4 (.slice (some ⟨g14,0,none⟩) 8192 8192) m2,bx g1 28 [.int .i64 m.Params,a0]],[(1,.pointer (some ⟨g1,0,none⟩)),(2,.slice none 0 0),(3,(.slice (some ⟨g14,0,none⟩) 8192 8192)),(5,.int .i64 (↑b)),(6,v5),(10,.int .i64 (↑i5))],(ix m.Blocks b).Ins.length - i5⟩) (0,l3,v3) ⟨by dsimp only; omega,by dsimp only; rw [hl3,List.take_of_length_le (by omega)]; simp⟩ (dc d1 dn) (kd (kc k0 kn)) ⟨Z,Z,Z,Z,Z,eqI (by omega),trivial⟩ ?_
 rintro ⟨i5,l5,v5⟩; dsimp only [u3]; rintro ⟨hi5,hl5⟩
 refine cgo k0 fun w14 => ?_
 have hl5l : l5.length ≤ 9500000 := by have := phiB_len hr hbb (ix m.Blocks b).Phis.length; rw [List.take_length] at this; have := insB_len hr hbb i5; rw [hl5]; simp only [List.length_append]; omega
 refine jq (jq (jr (jm Z (js (jf F28_1 Z) (js (jl k2 O26 Z Z) (jm Z (js (jix U26 Z37 (rMFunc.cB d0) Z Z Z (by omega)) (js (jf F37_1 Z) (jev (jlV (rMBlock.A_Ins (dix (rMFunc.cB d0) b (by omega))) O33 Z Z) fun v85 q15 w15 => js (jln U33 d0 Z) (js (jlss Z Z) ?_))))))))))
 refine jn (jx ?_)
 refine jif Z (fun hc5 => ?_) (fun hc5 => ?_)
 refine jsk (jx (jq (jb (jany false (.a 0 (.a 1 (.a 2 (.a 3 (.a 4 (.a 5 (.a 6 (.a 7 (.a 8 (.a 9 (.a 12 (.a 13 (.a 14 (.a 15 (.a 16 (.a 17 (.a 18 (.a 19 (.a 20 (.o 10 (.o 11 (.o 21 (.o 22 (.a 23 .e)))))))))))))))))))))))) Mixed (by kernel_rfl) (kc k2 kn) fun F17 => jy Z (jmv Z) (jy Z (jf F28_1 Z) (jy Z (jl k0 O26 Z Z) (jy Z (jmv Z) (jy Z (jix U26 Z37 (rMFunc.cB d1) Z Z Z (by omega)) (jy Z (jf F37_1 Z) (jye (q := fun v => dv (rL rMach) v ((ix m.Blocks b).Ins)) Z (xlV (rMBlock.A_Ins (dix (rMFunc.cB d1) b (by omega))) O33 Z Z) fun v96 => ?_))))))))))
 refine jy Z (jmv Z) (adq d0 fun q19 w19 => jy Z (jix U33 Z69 d0 Z Z Z (by omega)) (jyA sMach Z (xlA (dix d0 i5 (by omega)) A69 Z69 Z) fun c99 => jy Z (jf F28_1 Z) (jy Z (jl k0 O26 Z Z) (jy Z (jmv Z) (jy Z (jix U26 Z37 (rMFunc.cB d3) Z Z Z (by omega)) (jy Z (jf F37_1 Z) (jye (q := fun v => dv (rL rMach) v ((ix m.Blocks b).Ins)) Z (xlV (rMBlock.A_Ins (dix (rMFunc.cB d3) b (by omega))) O33 Z Z) fun v107 => jy Z (jmv Z) (adq d0 fun q22 w22 => ?_))))))))
 refine jy Z (jix U33 Z69 d0 Z Z Z (by omega)) (jyA sMach Z (xlA (dix d0 i5 (by omega)) A69 Z69 Z) fun c110 => jyo Z (jcd E44 Z Z rTakes_ct (dc d3 dn) kn fun v100 q25 w25 => jyn d1 (kc k2 kn) (jyo Z (japl U22 I3 (by decide) Z k0 Z Z d1 (by (try simp) <;> omega) fun v101 w28 => jyn d0 (kc k2 kn) (jyo Z (jcd E45 Z Z rMakes_ct (dc d4 dn) kn fun v111 q30 w30 => jyn d1 (kc k2 kn) (jyo Z ?_)))))))
 refine japl U22 I3 (by decide) Z k0 Z Z d1 (by (try simp) <;> omega) fun v112 w33 => jyn d0 (kc k2 kn) (jy Z (jas Z) (jyd (jbn (jx (jr (jm Z (js (jadd Z Z (by omega)) (ja Z (jn ?_)))))))))
 exact jag (i5 + 1,(l5 ++ (takesM (ix ((ix m.Blocks b).Ins) i5))) ++ (makesM (ix ((ix m.Blocks b).Ins) i5)),v112) ⟨by dsimp only; omega,by dsimp only; rw [hl5,flat_next (by omega)]; simp only [insB,List.append_assoc]⟩ (dc d11 dn) (kd (kc k0 kn)) ⟨Z,Z,Z,Z,Z,eqI (by omega),trivial⟩
 refine jex (jtx (jtx (jbh (jx (jq (jr (ja Z (jn (jx (jb ?_))))))))))
 have hl59 : l5 = regB (ix m.Blocks b) := by rw [hl5,List.take_of_length_le (by omega)]; rfl
 have hrg : ∀ r ∈ l5,Rg r := by rw [hl59]; exact regB_rg hr hbb
 refine jlp (u2 fun (j6 : Nat) (m6 : List Bool) => ⟨j6 ≤ l5.length ∧ MK ((parB m ++ (m.Blocks.take b).flatMap regB) ++ l5.take j6) m6,[da rMFunc (vMFunc m a0) m],[gl X.n (rI .i64) 3 v5 l5,gl X.n rB 4 (.slice (some ⟨g14,0,none⟩) 8192 8192) m6,bx g1 28 [.int .i64 m.Params,a0]],[(1,.pointer (some ⟨g1,0,none⟩)),(2,.slice none 0 0),(3,(.slice (some ⟨g14,0,none⟩) 8192 8192)),(5,.int .i64 (↑b)),(6,v5),(11,.int .i64 (↑j6))],l5.length - j6⟩) (0,m2) ⟨by dsimp only; omega,by dsimp only; exact hm2.of (by simp)⟩ (dc d1 dn) (kd (kc k0 kn)) ⟨Z,Z,Z,Z,Z,eqI (by omega),trivial⟩ ?_
 rintro ⟨j6,m6⟩; dsimp only [u2]; rintro ⟨hj6,hm6⟩
 have hl6 := hm6.n
 refine jq (jq (jr (jm Z (jm Z (js (jlg U22 k0 Z) (js (jlss Z Z) (jn (jx ?_))))))))
 refine jif Z (fun hc6 => ?_) (fun hc6 => ?_)
 have hrj : Rg (ix l5 j6) := hrg _ (ix_mem (by omega))
 have hrj2 : 0 ≤ ix l5 j6 ∧ ix l5 j6 < 8192 := hrj
 refine jsk (jx (jq (jb (jr (jm Z (jm Z (jm Z (js (jig U22 Z3 k0 Z Z Z (by omega)) (js (jgI k0 (by omega) O3 Z) (js (jig (i := (Int.toNat (ix l5 j6))) U93 Z4 k1 Z Z (by omega) (by omega)) (jsg k1 Z Z4 Z Z Z (by omega) wB ?_)))))))))))
 refine jn (jbn (jx (jr (jm Z (js (jadd Z Z (by omega)) (ja Z (jn ?_)))))))
 exact jag (j6 + 1,List.set m6 (Int.toNat (ix l5 j6)) true) ⟨by dsimp only; omega,by dsimp only; exact (hm6.set hrj).of (by rw [take_ix (by omega),List.append_assoc])⟩ (dc d0 dn) (kc k1 (kd kn)) ⟨Z,Z,Z,Z,Z,eqI (by omega),trivial⟩
 refine jex (jtx (jtx (jbh (jbn (jx (jr (jm Z (js (jadd Z Z (by omega)) (ja Z (jn ?_))))))))))
 exact jag (b + 1,m6) ⟨by dsimp only; omega,by dsimp only; exact hm6.of (by rw [flat_next hbb,List.take_of_length_le (l := l5) (by omega),hl59,List.append_assoc])⟩ (dc d0 dn) (kc k1 (kc k1 kn)) ⟨Z,Z,Z,eqI (by omega),trivial⟩
 refine jex (jtx (jtx (jbh (jx (jq (jr (jlit (r := (rI .i64)) (l := []) U22 I3 (by decide) Z Z Z ln fun g125 => ja Z (jn (jx (jq ?_))))))))))
 refine jq (jr (ja Z (jn (jx (jb ?_)))))
 have hm29 : MK (regA m) m2 := hm2.of (by rw [List.take_of_length_le (by omega)]; rfl)
 refine jlp (u3 fun (k7 : Nat) (rs : List Int) (vr : Value) => ⟨k7 ≤ 8192 ∧ rs = ((List.range k7).filter (fun k : Nat => decide ((k : Int) ∈ regA m))).map (fun k : Nat => (k : Int)),[],[gl X.n (rI .i64) 3 vr rs,gl X.n rB 4 (.slice (some ⟨g14,0,none⟩) 8192 8192) m2],[(2,.slice none 0 0),(3,(.slice (some ⟨g14,0,none⟩) 8192 8192)),(12,vr),(13,.int .i64 (↑k7))],8192 - k7⟩) (0,[],(.slice (some ⟨g125,0,none⟩) 0 0)) ⟨by dsimp only; omega,rfl⟩ dn (kd kn) ⟨Z,Z,Z,eqI (by omega),trivial⟩ ?_
 rintro ⟨k7,rs,vr⟩; dsimp only [u3]; rintro ⟨hk7,hrs⟩
 refine cgo k0 fun w34 => ?_
 have hrl : rs.length ≤ 8192 := by rw [hrs,List.length_map]; exact Nat.le_trans (List.length_filter_le _ _) (by rw [List.length_range]; exact hk7)
 refine jq (jq (jr (jm Z (jm Z (js (jlg U93 k1 Z) (js (jlss Z Z) (jn (jx ?_))))))))
 refine jif Z (fun hc7 => ?_) (fun hc7 => ?_)
 refine jsk (jx (jq (jb (jq (jr (jm Z (jm Z (js (jig U93 Z4 k1 Z Z Z (by omega)) (js (jgB k1 (by omega) O4 Z) (jn (jx ?_)))))))))))
 refine jif Z (fun hc8 => ?_) (fun hc8 => ?_)
 refine jr (jm Z (jm Z (japv U22 I3 (by decide) Z Z k0 Z (wI (wp (IntWalk.i64_in _ (by omega)))) (by omega) (fun _ => Z) fun v139 _ w35 => ja Z (jn (jbn (jx (jr (jm Z (js (jadd Z Z (by omega)) (ja Z ?_))))))))))
 refine jn ?_
 exact jag (k7 + 1,rs ++ [((k7 : Nat) : Int)],v139) ⟨by dsimp only; omega,by dsimp only; rw [filt_next,← hrs]; rw [if_pos (by rw [← hm29.s k7 (by omega)]; exact hc8)]⟩ dn (kd kn) ⟨Z,Z,Z,eqI (by omega),trivial⟩
 refine jsk (jbn (jx (jr (jm Z (js (jadd Z Z (by omega)) (ja Z (jn ?_)))))))
 exact jag (k7 + 1,rs,vr) ⟨by dsimp only; omega,by dsimp only; rw [filt_next,← hrs]; rw [if_neg (by rw [← hm29.s k7 (by omega)]; simp [hc8]),List.append_nil]⟩ dn (kd kn) ⟨Z,Z,Z,eqI (by omega),trivial⟩
 refine jex (jtx (jtx (jbh (jx (jq (jr (jm Z (ja Z (jn (jx (jrt ?_)))))))))))
 refine qfz k0 (by omega) ?_
 exact jrD Z Z (by rw [regsM,hrs,show k7 = 8192 by omega]) d0
end Go.Proofs.YtehhjlkmbdhckaaGreat
