/- Lemmas that the claim is made of. Conditions: each lemma names its own. -/
import Derived.Test.YtehhjlkmbdhckaaGreatKE12
set_option linter.unusedSectionVars false
set_option linter.unusedSimpArgs false
set_option linter.unusedVariables false
namespace Go.Proofs.YtehhjlkmbdhckaaGreat
open Go.JE
theorem A47 : ∃ d,Tryz.prog.underlying 47 = some d ∧ (match d with | .struct _ | .array _ _ => true | _ => false) = true := ⟨_,Tryz.underlying47,rfl⟩
theorem E18 : Ent Tryz.prog 18 := ⟨_,Tryz.func18,by kernel_rfl,by kernel_rfl⟩
theorem E21 : Ent Tryz.prog 21 := ⟨_,Tryz.func21,by kernel_rfl,by kernel_rfl⟩
theorem E22 : Ent Tryz.prog 22 := ⟨_,Tryz.func22,by kernel_rfl,by kernel_rfl⟩
theorem E24 : Ent Tryz.prog 24 := ⟨_,Tryz.func24,by kernel_rfl,by kernel_rfl⟩
theorem E36 : Ent Tryz.prog 36 := ⟨_,Tryz.func36,by kernel_rfl,by kernel_rfl⟩
theorem E37 : Ent Tryz.prog 37 := ⟨_,Tryz.func37,by kernel_rfl,by kernel_rfl⟩
theorem S2_47 : St2 Tryz.prog 47 .i64 := ⟨⟨_,_,Tryz.underlying47,by decide,by decide,rfl,rfl,Tryz.underlying3,Tryz.underlying3⟩,by kernel_rfl,by kernel_rfl⟩
set_option maxRecDepth 8000
theorem lawRanges_ct {a0 : Value} {a : List D.Range} {a1 : Value} {b : List D.Range} : Tv Tryz.prog 36 #[a0,a1] [dv (rL rRange) a0 a,dv (rL rRange) a1 b] [] (.bool (rangesQ a b)) := by
 refine jenter (args := [a0,a1]) Tryz.func36 rfl rfl rfl fun w0 X => ?_
 refine jq (jr (ja Z (jn (jx (jq (jq (jr (jm Z (jdq d0 fun q1 w1 => js (jln U44 d0 Z) (jm Z ?_))))))))))
 refine jdq d1 fun q2 w2 => js (jln U44 d1 Z) (js (jneq Z Z) (jn (jx ?_)))
 refine jif Z (fun hc1 => ?_) (fun hc1 => ?_)
 refine jq (jr (ja Z (jn (jx (jrt (jtr ?_))))))
 exact jrB Z Z (by first | (exact decide_eq_true (rng_ix (by omega) (fun j hj => hall j (by omega)))) | (exact decide_eq_false (fun h9 => by subst h9; simp at hc3)) | (exact decide_eq_false (fun h9 => by subst h9; exact hc1 rfl)))
 refine jsk (jx (jq (jq (jr (ja Z (jn (jx (jb ?_))))))))
 refine jlp (fun (k : Nat) => ⟨k ≤ a.length ∧ ∀ j,j < k → ix a j = ix b j,[dv (rL rRange) a0 a,dv (rL rRange) a1 b],[],[(0,a0),(1,a1),(5,.int .i64 (↑k))],a.length - k⟩) 0 ⟨by omega,fun j hj => by omega⟩ (dc d0 (dc d1 dn)) kn ⟨Z,Z,eqI (by omega),trivial⟩ ?_
 rintro k; dsimp only; rintro ⟨hk,hall⟩
 refine jq (jq (jr (jm Z (jm Z (js (jln U44 d0 Z) (js (jlss Z Z) (jn (jx ?_))))))))
 refine jif Z (fun hc2 => ?_) (fun hc2 => ?_)
 refine jsk (jx (jq (jb (jq (jstl Mixed (by kernel_rfl) (jt (jmv Z) (jt (jmv Z) (jt (jix U44 Z47 d0 Z Z Z (by omega)) (jtA sRange (jlA (dix d0 k (by omega)) A47 Z47 Z) fun _ => jt (jmv Z) (jt (jmv Z) ?_))))))))))
 refine jt (jix U44 Z47 d2 Z Z Z (by omega)) (jtA sRange (jlA (dix d2 k (by omega)) A47 Z47 Z) fun _ => jt (jneqSt S2_47 Z Z) (jdn (jx ?_)))
 refine jif Z (fun hc3 => ?_) (fun hc3 => ?_)
 refine jq (jr (ja Z (jn (jx (jrt (jbr (jtr (jtr (jbr (jtr ?_))))))))))
 exact jrB Z Z (by first | (exact decide_eq_true (rng_ix (by omega) (fun j hj => hall j (by omega)))) | (exact decide_eq_false (fun h9 => by subst h9; simp at hc3)) | (exact decide_eq_false (fun h9 => by subst h9; exact hc1 rfl)))
 refine jsk (jbn (jx (jr (jm Z (js (jadd Z Z (by omega)) (ja Z (jn ?_)))))))
 exact jag (k + 1) ⟨by omega,fun j hj => by rcases Nat.lt_or_ge j k with h7 | h7; (exact hall j h7); (rw [show j = k by omega]; exact rng_ext (by simpa using hc3))⟩ (dc d2 (dc d3 dn)) kn ⟨Z,Z,eqI (by omega),trivial⟩
 refine jex (jtx (jtx (jbh (jx (jq (jr (ja Z (jn (jx (jrt ?_))))))))))
 exact jrB Z Z (by first | (exact decide_eq_true (rng_ix (by omega) (fun j hj => hall j (by omega)))) | (exact decide_eq_false (fun h9 => by subst h9; simp at hc3)) | (exact decide_eq_false (fun h9 => by subst h9; exact hc1 rfl)))
theorem shown_ct  : Tv Tryz.prog 11 #[] [] [] (.bool true) := by
 refine jenter (args := []) Tryz.func11 rfl rfl rfl fun w0 X => ?_
 refine jq (jr (ja Z (jn (jx (jq (jr (js (jbu (v := .agg #[.int .i64 5,.int .i64 2,.int .i64 0,.int .i64 0,.int .i64 1,.int .i64 0,.int .i32 0,.slice none 0 0]) Z (fun _ => by kernel_rfl)) (js (jbu (v := .agg #[.int .i64 5,.int .i64 3,.int .i64 0,.int .i64 2,.int .i64 0,.int .i64 0,.int .i32 0,.slice none 0 0]) Z (fun _ => by kernel_rfl)) (jlit (r := rMach) (l := [⟨5,2,0,0,1,0,0,[]⟩,⟨5,3,0,2,0,0,0,[]⟩]) U33 I69 (by decide) Z Z Z (lA (rMach.M (m := ⟨5,2,0,0,1,0,0,[]⟩) (c := (.slice none 0 0)) wN (wl 5) (wl 2) (wl 0) (wl 0) (wl 1) (wl 0) (wl 0)) (lA (rMach.M (m := ⟨5,3,0,2,0,0,0,[]⟩) (c := (.slice none 0 0)) wN (wl 5) (wl 3) (wl 0) (wl 2) (wl 0) (wl 0) (wl 0)) ln)) fun g4 => js (jbu (v := .agg #[.int .i64 7,.int .i64 3,.int .i64 0,.slice none 0 0,.int .i32 0]) Z (fun _ => by kernel_rfl)) (js (jbu (v := .agg #[.slice none 0 0,(.slice (some ⟨g4,0,none⟩) 2 2),.int .i64 7,.int .i64 3,.int .i64 0,.slice none 0 0,.int .i32 0]) Z (fun _ => by kernel_rfl)) ?_))))))))))
 refine jfz k0 (by (try simp) <;> omega) (jlit (r := rMBlock) (l := [⟨[],[⟨5,2,0,0,1,0,0,[]⟩,⟨5,3,0,2,0,0,0,[]⟩],⟨7,3,0,[],0⟩⟩]) U26 I37 (by decide) Z Z Z (lA (rMBlock.M (m := ⟨[],[⟨5,2,0,0,1,0,0,[]⟩,⟨5,3,0,2,0,0,0,[]⟩],⟨7,3,0,[],0⟩⟩) (c := (.slice none 0 0,(.slice (some ⟨g4,0,none⟩) 2 2),.slice none 0 0)) wN d0 wN (wl 7) (wl 3) (wl 0) (wl 0)) ln) fun g7 => js (jbu (v := .agg #[.int .i64 2,(.slice (some ⟨g7,0,none⟩) 1 1)]) Z (fun _ => by kernel_rfl)) (jalc J28 Z fun g1 => jsta k0 Z28 Z Z Z ⟨Z,Z,trivial⟩ (saf Z) (jn (jx (jq (jr (js (jla k0 A28 Z28 Z Z Z) (jfz k1 (by (try simp) <;> omega) (jcd E18 Z Z (at_ct (m := ⟨2,[⟨[],[⟨5,2,0,0,1,0,0,[]⟩,⟨5,3,0,2,0,0,0,[]⟩],⟨7,3,0,[],0⟩⟩]⟩) 0 1) (dc (rMFunc.M (m := ⟨2,[⟨[],[⟨5,2,0,0,1,0,0,[]⟩,⟨5,3,0,2,0,0,0,[]⟩],⟨7,3,0,[],0⟩⟩]⟩) (c := (.slice (some ⟨g7,0,none⟩) 1 1)) d0 (wl 2)) dn) kn fun v10 q3 w3 => ?_)))))))))
 refine jlit (r := (rI .i64)) (l := [0,2]) U22 I3 (by decide) Z Z Z (lV Z Z (wI (wl 0)) (lV Z Z (wI (wl 2)) ln)) fun g11 => jc E17 Z Z (Tv.temp1 1073741824 row_ct (by (try simp) <;> omega)) (dc d0 dn) (kc k0 kn) (fun _ => p0) (fun _ => p1) fun _ => ?_
 rw [show rowQ (atM (⟨2,[⟨[],[⟨5,2,0,0,1,0,0,[]⟩,⟨5,3,0,2,0,0,0,[]⟩],⟨7,3,0,[],0⟩⟩]⟩) 0 1) ([0,2]) = true from shL_row]
 refine jm Z (jk Z Z (.t _) (jla k1 A28 Z28 Z Z Z) (jgk Z Z (.t _) (jcd E21 Z Z (ranges_ct (m := ⟨2,[⟨[],[⟨5,2,0,0,1,0,0,[]⟩,⟨5,3,0,2,0,0,0,[]⟩],⟨7,3,0,[],0⟩⟩]⟩) 0) (dc (rMFunc.M (m := ⟨2,[⟨[],[⟨5,2,0,0,1,0,0,[]⟩,⟨5,3,0,2,0,0,0,[]⟩],⟨7,3,0,[],0⟩⟩]⟩) (c := (.slice (some ⟨g7,0,none⟩) 1 1)) d1 (wl 2)) dn) kn fun v15 q5 w5 => jk Z Z (.t _) (jbu (v := .agg #[.int .i64 0,.int .i64 2]) Z (fun _ => by kernel_rfl)) (jgk Z Z (.t _) (jlit (r := rRange) (l := [⟨0,2⟩]) U44 I47 (by decide) Z Z Z (lA (rRange.M (m := ⟨0,2⟩) (c := ()) (wl 0) (wl 2)) ln) fun g17 => jgk Z Z (.t _) (jc E36 Z Z (Tv.temp1 1073741824 lawRanges_ct (by (try simp) <;> omega)) (dc d0 dn) (kc k0 kn) (fun _ => p0) (fun _ => p1) fun _ => ?_))))))
 rw [show rangesQ (rangesM (⟨2,[⟨[],[⟨5,2,0,0,1,0,0,[]⟩,⟨5,3,0,2,0,0,0,[]⟩],⟨7,3,0,[],0⟩⟩]⟩) 0) ([⟨0,2⟩]) = true from shL_rng]
 refine js (jand Z Z) (jm Z (jk Z Z (.t _) (jla k2 A28 Z28 Z Z Z) (jgk Z Z (.t _) (jcv E22 Z Z (together_ct (m := ⟨2,[⟨[],[⟨5,2,0,0,1,0,0,[]⟩,⟨5,3,0,2,0,0,0,[]⟩],⟨7,3,0,[],0⟩⟩]⟩) 0 2) (dc (rMFunc.M (m := ⟨2,[⟨[],[⟨5,2,0,0,1,0,0,[]⟩,⟨5,3,0,2,0,0,0,[]⟩],⟨7,3,0,[],0⟩⟩]⟩) (c := (.slice (some ⟨g7,0,none⟩) 1 1)) d2 (wl 2)) dn) kn ?_))))
 rw [show togM (⟨2,[⟨[],[⟨5,2,0,0,1,0,0,[]⟩,⟨5,3,0,2,0,0,0,[]⟩],⟨7,3,0,[],0⟩⟩]⟩) 0 2 = true from shL_tog1]
 refine js (jand Z Z) (jm Z (jk Z Z (.t _) (jla k2 A28 Z28 Z Z Z) (jgk Z Z (.t _) (jcv E22 Z Z (together_ct (m := ⟨2,[⟨[],[⟨5,2,0,0,1,0,0,[]⟩,⟨5,3,0,2,0,0,0,[]⟩],⟨7,3,0,[],0⟩⟩]⟩) 0 3) (dc (rMFunc.M (m := ⟨2,[⟨[],[⟨5,2,0,0,1,0,0,[]⟩,⟨5,3,0,2,0,0,0,[]⟩],⟨7,3,0,[],0⟩⟩]⟩) (c := (.slice (some ⟨g7,0,none⟩) 1 1)) d2 (wl 2)) dn) kn ?_))))
 rw [show togM (⟨2,[⟨[],[⟨5,2,0,0,1,0,0,[]⟩,⟨5,3,0,2,0,0,0,[]⟩],⟨7,3,0,[],0⟩⟩]⟩) 0 3 = false from shL_tog2]
 refine jk Z Z (.t _) (jnot Z) (js (jand Z Z) (jm Z (jk Z Z (.t _) (jla k2 A28 Z28 Z Z Z) (jgk Z Z (.t _) (jcv E24 Z Z (most_ct (m := ⟨2,[⟨[],[⟨5,2,0,0,1,0,0,[]⟩,⟨5,3,0,2,0,0,0,[]⟩],⟨7,3,0,[],0⟩⟩]⟩)) (dc (rMFunc.M (m := ⟨2,[⟨[],[⟨5,2,0,0,1,0,0,[]⟩,⟨5,3,0,2,0,0,0,[]⟩],⟨7,3,0,[],0⟩⟩]⟩) (c := (.slice (some ⟨g7,0,none⟩) 1 1)) d2 (wl 2)) dn) kn ?_)))))
 rw [show mostM (⟨2,[⟨[],[⟨5,2,0,0,1,0,0,[]⟩,⟨5,3,0,2,0,0,0,[]⟩],⟨7,3,0,[],0⟩⟩]⟩) = 2 from shL_most]
 refine jk Z Z (.t _) (jeql Z Z) (js (jand Z Z) (ja Z (jn (jx (jrt ?_)))))
 exact jrB Z Z (by first | rfl | decide)
theorem made10_ct {a0 : Value} {s : List Int} {N0 : Nat} : Ts Tryz.prog 12 #[a0] [dv (rLn N0 (rI .i64)) a0 s] [] rMFunc vMFunc (made10 s) := by
 refine jenter (args := [a0]) Tryz.func12 rfl rfl rfl fun w0 X => ?_
 refine jq (jr (jalc J28 Z fun g2 => jn (jx (jq (jr (jm Z (jm Z (jdq d0 fun q1 w1 => js (jln U22 d0 Z) (js (jmin Z Z) ?_)))))))))
 refine js (jshi (hi := (Int.toNat (min (↑(List.length s)) 200))) U22 Z3 d0 Z Z (by omega) (by omega)) (jdq (dhi d0 (Int.toNat (min (↑(List.length s)) 200)) (by omega) (by omega)) fun q2 w2 => jcs E37 Z Z r7made_ct (dc (dhi d0 (Int.toNat (min (↑(List.length s)) 200)) (by omega) (by omega)) dn) kn fun c8 => jdq (rMFunc.cB d0) fun q4 w4 => jsta k0 Z28 Z Z Z ⟨Z,w4.one,trivial⟩ (saf Z) (jn (jx (jrt ?_))))
 exact jrcA (val := vMFunc) (b := made7 (List.take (Int.toNat (min (↑(List.length s)) 200)) s)) (c := c8) Z Z k0 A28 Z28 Z (by rw [← take_min s 200 200 rfl]; rfl) d0
end Go.Proofs.YtehhjlkmbdhckaaGreat
namespace Go.Proofs.YtehhjlkmbdhckaaGreat
open Go.JE
theorem preP_sum {m : D.MFunc} : ∀ {b : Nat},b ≤ m.Blocks.length → ∀ p,((preP m b p).length : Int) = p + sumB (m.Blocks.take b) := by
 have key : ∀ b p,(preP m b p).length = (preP m b 0).length + p := fun b p => by
   induction p with
   | zero => rfl
   | succ p ih => rw [preP_len,ih]; omega
 intro b
 induction b with
 | zero => intro _ p; rw [key]; simp [sumB,preP]
 | succ b ih =>
   intro hb p
   have h1 := ih (by omega) ((ix m.Blocks b).Ins.length + 1)
   rw [key,preP_blk,sumB_next (by omega)]; omega
def prvT (l : List D.Range) (i : Nat) : Int := if i = 0 then -1 else (ix l (i - 1)).To
structure RS (l : List D.Range) (n : Int) : Prop where
 s : ∀ i,i < l.length → prvT l i < (ix l i).From ∧ (ix l i).From < (ix l i).To ∧ (ix l i).To ≤ n
theorem RS.step {r : Int} {l : List D.Range} {n : Nat} {S : List Int} (h : RS l n) : RS (rngS r l n S) ((n : Int) + 1) := by
 unfold rngS
 split
 · split
   · rename_i h2
     refine ⟨fun i hi => ?_⟩
     rw [List.length_set] at hi
     have h3 := h.s i hi
     have e : ∀ j,j < l.length → ix (l.set (l.length - 1) { ix l (l.length - 1) with To := (n : Int) + 1 }) j = if j = l.length - 1 then { ix l (l.length - 1) with To := (n : Int) + 1 } else ix l j := fun j hj => by
       rw [ix_set (by omega)]
     have e1 : prvT (l.set (l.length - 1) { ix l (l.length - 1) with To := (n : Int) + 1 }) i = prvT l i := by
       unfold prvT
       by_cases h0 : i = 0
       · rw [if_pos h0,if_pos h0]
       · rw [if_neg h0,if_neg h0,e (i - 1) (by omega),if_neg (by omega)]
     rw [e1,e i hi]
     by_cases h0 : i = l.length - 1
     · rw [if_pos h0]; subst h0; dsimp only; have := h2.2; omega
     · rw [if_neg h0]; omega
   · rename_i h2
     refine ⟨fun i hi => ?_⟩
     simp only [List.length_append,List.length_cons,List.length_nil] at hi
     have e : ∀ j,j < l.length → ix (l ++ [⟨(n : Int),(n : Int) + 1⟩]) j = ix l j := fun j hj => by
       rw [ix_eq (by simp; omega),ix_eq hj,List.getElem_append_left]
     by_cases h0 : i < l.length
     · have h3 := h.s i h0
       have e1 : prvT (l ++ [⟨(n : Int),(n : Int) + 1⟩]) i = prvT l i := by
         unfold prvT
         by_cases h0 : i = 0
         · rw [if_pos h0,if_pos h0]
         · rw [if_neg h0,if_neg h0,e (i - 1) (by omega)]
       rw [e1,e i h0]; omega
     · have h4 : i = l.length := by omega
       have e2 : ix (l ++ [(⟨(n : Int),(n : Int) + 1⟩ : D.Range)]) i = ⟨(n : Int),(n : Int) + 1⟩ := by
         rw [ix_eq (by simp; omega)]; simp [h4]
       rw [e2]
       have e1 : prvT (l ++ [⟨(n : Int),(n : Int) + 1⟩]) i < n := by
         unfold prvT
         by_cases h5 : i = 0
         · rw [if_pos h5]; omega
         · rw [if_neg h5,e (i - 1) (by omega)]
           have h6 := h.s (i - 1) (by omega)
           have h7 : ¬ (ix l (i - 1)).To = n := fun h8 => h2 ⟨by omega,by rw [← h4]; exact h8⟩
           omega
       dsimp only; omega
 · exact ⟨fun i hi => by have := h.s i hi; omega⟩
theorem RS.fold {m : D.MFunc} {r : Int} : ∀ (q : List (Nat × Nat)) (l : List D.Range) (k : Nat),RS l k → RS ((q.zipIdx k).foldl (fun s x => rngS r s x.2 (hasE m x.1.1 x.1.2)) l) ((k : Int) + q.length)
 | [],l,k,h => by simpa using h
 | x :: q,l,k,h => by
   rw [List.zipIdx_cons,List.foldl_cons]
   have h1 := RS.fold (m := m) (r := r) q (rngS r l k (hasE m x.1 x.2)) (k + 1) h.step
   rw [List.length_cons]
   have e : ((k + 1 : Nat) : Int) + (q.length : Int) = (k : Int) + ((q.length + 1 : Nat) : Int) := by omega
   rw [← e]; exact h1
theorem ranges_rs {m : D.MFunc} (hr : rightM m = true) (r : Int) : RS (rangesM m r) (preP m m.Blocks.length 0).length := by
 unfold rangesM stM
 rw [if_pos hr]
 have := RS.fold (m := m) (r := r) (preP m m.Blocks.length 0) [] 0 ⟨fun i hi => by cases hi⟩
 simpa using this
theorem ranges_len {m : D.MFunc} (hr : rightM m = true) (r : Int) : (rangesM m r).length ≤ (preP m m.Blocks.length 0).length := by unfold rangesM; rw [if_pos hr]; exact stR_len
def rgX (x : D.Range) (n : Int) : Bool := decide (x.From ≤ n) && decide (n < x.To)
def rgS (l : List D.Range) (n : Int) : Bool := l.any (fun x => rgX x n)
theorem inS_iff {l : List D.Range} {n : Int} : rgS l n = true ↔ ∃ j,j < l.length ∧ (ix l j).From ≤ n ∧ n < (ix l j).To := by
 unfold rgS rgX
 rw [List.any_eq_true]
 constructor
 · rintro ⟨x,hx,h⟩
   obtain ⟨j,hj,e⟩ := List.getElem_of_mem hx
   refine ⟨j,hj,?_⟩
   rw [ix_eq hj,e]; simpa using h
 · rintro ⟨j,hj,h⟩
   exact ⟨_,ix_mem hj,by simpa using h⟩
theorem RS.above {l : List D.Range} {k n : Int} (h : RS l k) (hn : k ≤ n) : rgS l n = false := by
 cases h9 : rgS l n with
 | false => rfl
 | true =>
   obtain ⟨j,hj,h1,h2⟩ := inS_iff.1 h9
   have := h.s j hj; omega
theorem RS.put {r : Int} {l : List D.Range} {k : Nat} {S : List Int} (h : RS l k) {n : Int} : rgS (rngS r l k S) n = if n = k then decide (r ∈ S) else rgS l n := by
 have h0 := h.above (n := k) (Int.le_refl _)
 unfold rngS
 by_cases hr : r ∈ S
 · rw [if_pos hr]
   split
   · rename_i h2
     have hl : l.length - 1 < l.length := by omega
     have hlast := h.s (l.length - 1) hl
     rw [Bool.eq_iff_iff,inS_iff]
     have e : ∀ j,j < l.length → ix (l.set (l.length - 1) { ix l (l.length - 1) with To := (k : Int) + 1 }) j = if j = l.length - 1 then { ix l (l.length - 1) with To := (k : Int) + 1 } else ix l j := fun j hj => by rw [ix_set (by omega)]
     rw [List.length_set]
     by_cases hn : n = k
     · rw [if_pos hn,decide_eq_true_eq]
       refine ⟨fun _ => hr,fun _ => ⟨l.length - 1,hl,?_⟩⟩
       rw [e _ hl,if_pos rfl]; dsimp only; omega
     · rw [if_neg hn,inS_iff]
       constructor
       · rintro ⟨j,hj,h3⟩
         rw [e j hj] at h3
         split at h3
         · rename_i h4; subst h4; dsimp only at h3; exact ⟨_,hl,by omega,by omega⟩
         · exact ⟨j,hj,h3⟩
       · rintro ⟨j,hj,h3⟩
         refine ⟨j,hj,?_⟩
         rw [e j hj]
         split
         · rename_i h4; subst h4; dsimp only; omega
         · exact h3
   · rw [Bool.eq_iff_iff]
     unfold rgS
     rw [List.any_append,Bool.or_eq_true]
     by_cases hn : n = k
     · rw [if_pos hn,decide_eq_true_eq]
       exact ⟨fun _ => hr,fun _ => .inr (by subst hn; simp [rgX]; omega)⟩
     · rw [if_neg hn]
       constructor
       · rintro (h3 | h3)
         · exact h3
         · simp [rgX] at h3; omega
       · exact .inl
 · rw [if_neg hr]
   by_cases hn : n = k
   · rw [if_pos hn,hn,h0,decide_eq_false hr]
   · rw [if_neg hn]
theorem cover_fold {m : D.MFunc} {r : Int} : ∀ (q : List (Nat × Nat)) (l : List D.Range) (k : Nat),RS l k → ∀ n : Int,rgS ((q.zipIdx k).foldl (fun s x => rngS r s x.2 (hasE m x.1.1 x.1.2)) l) n = if n < k then rgS l n else decide (∃ j,j < q.length ∧ n = k + j ∧ r ∈ hasE m (ix q j).1 (ix q j).2)
 | [],l,k,h,n => by
   rw [List.zipIdx_nil,List.foldl_nil]
   split
   · rfl
   · rw [h.above (by omega)]
     exact (decide_eq_false (by rintro ⟨j,hj,_⟩; cases hj)).symm
 | x :: q,l,k,h,n => by
   rw [List.zipIdx_cons,List.foldl_cons]
   have h1 := cover_fold (m := m) (r := r) q (rngS r l k (hasE m x.1 x.2)) (k + 1) h.step n
   rw [h1,h.put]
   by_cases hk : n < k
   · rw [if_pos (by omega),if_neg (by omega),if_pos hk]
   · rw [if_neg hk]
     by_cases hn : n = k
     · rw [if_pos (by omega),if_pos hn,decide_eq_decide]
       constructor
       · intro h3; exact ⟨0,by simp,by omega,h3⟩
       · rintro ⟨j,hj,e,h3⟩
         have : j = 0 := by omega
         subst this; exact h3
     · rw [if_neg (by omega),decide_eq_decide]
       constructor
       · rintro ⟨j,hj,e,h3⟩
         exact ⟨j + 1,by simpa using hj,by omega,by rw [show ix (x :: q) (j + 1) = ix q j from by simp [ix]]; exact h3⟩
       · rintro ⟨j,hj,e,h3⟩
         obtain ⟨i,rfl⟩ : ∃ i,j = i + 1 := ⟨j - 1,by omega⟩
         exact ⟨i,by simpa using hj,by omega,by rw [show ix (x :: q) (i + 1) = ix q i from by simp [ix]] at h3; exact h3⟩
theorem cover {m : D.MFunc} (hr : rightM m = true) (r n : Int) : rgS (rangesM m r) n = decide (∃ j,j < (preP m m.Blocks.length 0).length ∧ n = j ∧ r ∈ hasE m (ix (preP m m.Blocks.length 0) j).1 (ix (preP m m.Blocks.length 0) j).2) := by
 unfold rangesM stM
 rw [if_pos hr,cover_fold _ [] 0 ⟨fun i hi => by cases hi⟩ n]
 by_cases h : n < (0 : Nat)
 · rw [if_pos h]
   exact (decide_eq_false (by rintro ⟨j,_,e,_⟩; omega)).symm
 · rw [if_neg h,decide_eq_decide]; simp
theorem has_regs {m : D.MFunc} (hr : rightM m = true) {b p : Nat} (hb : b < m.Blocks.length) (hp : p ≤ (ix m.Blocks b).Ins.length) {r : Int} (h : r ∈ hasE m b p) : r ∈ regA m := by
 have hw := right_wl hr
 have hd : ∀ y ∈ dsts (ix m.Blocks b),y ∈ regA m := fun y hy => by
   obtain ⟨q,hq,e⟩ := List.mem_map.1 hy
   exact regB_A hb (List.mem_append.2 (.inl (List.mem_append.2 (.inr (List.mem_flatMap.2 ⟨q,hq,List.mem_cons.2 (.inl e.symm)⟩)))))
 unfold hasE at h
 split at h
 · rw [uniS_mem] at h
   rcases h with h | h
   · exact at_regs hw hb h
   · exact regB_A hb (List.mem_append.2 (.inr (List.mem_flatMap.2 ⟨_,ix_mem (by omega),List.mem_append.2 (.inr h)⟩)))
 split at h
 · rw [uniS_mem,uniS_mem] at h
   rcases h with (h | h) | h
   · exact at_regs hw hb h
   · exact hd r h
   · exact List.mem_append.2 (.inl h)
 · rw [uniS_mem] at h
   rcases h with h | h
   · exact at_regs hw hb h
   · exact hd r h
theorem has_all {m : D.MFunc} (hr : rightM m = true) {b p : Nat} (hb : b < m.Blocks.length) (hp : p ≤ (ix m.Blocks b).Ins.length) : (regsM m).filter (fun r => decide (r ∈ hasE m b p)) = hasE m b p :=
 regs_filter (has_ok hr hb hp).r (fun r h => ⟨(has_ok hr hb hp).g r h,has_regs hr hb hp h⟩) (fun _ => rfl)
theorem preP_in {m : D.MFunc} : ∀ x ∈ preP m m.Blocks.length 0,x.1 < m.Blocks.length ∧ x.2 ≤ (ix m.Blocks x.1).Ins.length := fun x hx => by
 unfold preP at hx
 simp only [List.range_zero,List.map_nil,List.append_nil,List.mem_flatMap,List.mem_map,List.mem_range] at hx
 obtain ⟨b,hb,p,hp,rfl⟩ := hx
 exact ⟨hb,by dsimp only; omega⟩
theorem RS.once {n : Int} : ∀ {l : List D.Range} {k : Int},RS l k → l.countP (fun x => rgX x n) = if rgS l n = true then 1 else 0 := by
 intro l
 have gen : ∀ (l : List D.Range) (lo : Int),(∀ i,i < l.length → (if i = 0 then lo else (ix l (i - 1)).To) < (ix l i).From ∧ (ix l i).From < (ix l i).To) → (n ≤ lo → l.countP (fun x => rgX x n) = 0) ∧ l.countP (fun x => rgX x n) = if rgS l n = true then 1 else 0 := by
   intro l
   induction l with
   | nil => intro lo h; exact ⟨fun _ => rfl,rfl⟩
   | cons x l ih =>
     intro lo h
     have h0 := h 0 (by simp)
     rw [if_pos rfl] at h0
     have h0' : lo < x.From ∧ x.From < x.To := h0
     obtain ⟨i1,i2⟩ := ih x.To (fun i hi => by
       have h1 := h (i + 1) (by simpa using hi)
       rw [if_neg (by omega)] at h1
       have e1 : ix (x :: l) (i + 1) = ix l i := by simp [ix]
       rw [e1,Nat.add_sub_cancel] at h1
       by_cases h9 : i = 0
       · subst h9; rw [if_pos rfl]; exact h1
       · rw [if_neg h9]
         have e2 : ix (x :: l) i = ix l (i - 1) := by
           obtain ⟨j,rfl⟩ : ∃ j,i = j + 1 := ⟨i - 1,by omega⟩
           simp [ix]
         rw [e2] at h1; exact h1)
     have ex : rgX x n = true ↔ x.From ≤ n ∧ n < x.To := by unfold rgX; simp
     rw [List.countP_cons]
     have es : rgS (x :: l) n = (rgX x n || rgS l n) := by unfold rgS; rw [List.any_cons]
     rw [es]
     by_cases hx : rgX x n = true
     · have h2 := ex.1 hx
       rw [i1 (by omega),if_pos hx,hx]
       exact ⟨fun h3 => by omega,by simp⟩
     · rw [if_neg hx,show rgX x n = false from by simpa using hx,Bool.false_or]
       exact ⟨fun h3 => by rw [i1 (by omega)],by rw [i2]; simp⟩
 intro k h
 exact (gen l (-1) (fun i hi => by have h1 := h.s i hi; unfold prvT at h1; exact ⟨h1.1,h1.2.1⟩)).2
theorem count_held {m : D.MFunc} (hr : rightM m = true) {j : Nat} (hj : j < (preP m m.Blocks.length 0).length) : (regsM m).countP (fun r => rgS (rangesM m r) j) = (hasE m (ix (preP m m.Blocks.length 0) j).1 (ix (preP m m.Blocks.length 0) j).2).length := by
 have hx := preP_in (m := m) _ (ix_mem hj)
 rw [← has_all hr hx.1 hx.2,List.countP_eq_length_filter]
 refine congrArg List.length (List.filter_congr fun r _ => ?_)
 rw [cover hr,decide_eq_decide]
 constructor
 · rintro ⟨i,hi,e,h⟩
   have : i = j := by omega
   subst this; exact h
 · intro h; exact ⟨j,hj,rfl,h⟩
theorem most_fold {α : Type} {f : α → List Int} : ∀ (l : List (α × Nat)) (s : Int),l.foldl (fun s x => mostS s x.2 (f x.1)) s = (l.map (fun x => x.1)).foldl (fun s x => max s ((f x).length : Int)) s
 | [],s => rfl
 | x :: l,s => by rw [List.foldl_cons,most_fold l,List.map_cons,List.foldl_cons]; rfl
theorem zip_fst {α : Type} : ∀ (l : List α) (k : Nat),(l.zipIdx k).map (fun x => x.1) = l
 | [],_ => rfl
 | x :: l,k => by rw [List.zipIdx_cons,List.map_cons,zip_fst l]
theorem mostM_fold {m : D.MFunc} (hr : rightM m = true) : mostM m = (preP m m.Blocks.length 0).foldl (fun s x => max s ((hasE m x.1 x.2).length : Int)) 0 := by
 unfold mostM stM
 rw [if_pos hr,most_fold (f := fun x : Nat × Nat => hasE m x.1 x.2),zip_fst]
theorem countP_next {α : Type} [Inhabited α] {l : List α} {f : α → Bool} {k : Nat} (h : k < l.length) : (l.take (k + 1)).countP f = (l.take k).countP f + if f (ix l k) = true then 1 else 0 := by
 rw [take_ix h,List.countP_append,List.countP_cons,List.countP_nil,Nat.zero_add]
theorem preP_step {m : D.MFunc} {b : Nat} (hb : b < m.Blocks.length) : ((preP m (b + 1) 0).length : Int) = (preP m b 0).length + ((ix m.Blocks b).Ins.length + 1) := by
 rw [preP_sum (by omega),preP_sum (by omega),sumB_next (by omega)]; omega
theorem E11 : Ent Tryz.prog 11 := ⟨_,Tryz.func11,by kernel_rfl,by kernel_rfl⟩
theorem E12 : Ent Tryz.prog 12 := ⟨_,Tryz.func12,by kernel_rfl,by kernel_rfl⟩
set_option maxRecDepth 8000
attribute [local irreducible] made10
end Go.Proofs.YtehhjlkmbdhckaaGreat
namespace Go.Proofs.YtehhjlkmbdhckaaGreat
open Go.JE
theorem F47_0 : Fld Tryz.prog 47 0 0 := ⟨_,_,Tryz.underlying47,rfl,rfl,1,(by unfold Sz; kernel_rfl),by decide⟩
set_option maxRecDepth 8000
attribute [local irreducible] made10
theorem prv_ge {l : List D.Range} {k : Int} (h : RS l k) {i : Nat} (hi : i ≤ l.length) : -1 ≤ prvT l i := by
 induction i with
 | zero => exact Int.le_refl _
 | succ i ih =>
   have h1 := ih (by omega)
   have h2 := h.s i (by omega)
   unfold prvT; rw [if_neg (by omega),Nat.add_sub_cancel]; omega
set_option maxRecDepth 20000 in
set_option maxHeartbeats 4000000 in
theorem liveMost_ct {a0 : Value} {s : List Int} {N0 : Nat} : Tv Tryz.prog 6 #[a0] [dv (rLn N0 (rI .i64)) a0 s] [] (.bool true) := by
 refine jenter (args := [a0]) Tryz.func6 rfl rfl rfl fun w0 X => ?_
 have hr : rightM (made10 s) = true := by unfold made10; exact made7_right _
 refine jq (jr (ja Z (jn (jx (jq (jr (jcv E11 Z Z shown_ct dn kn (ja Z (jn (jx (jq ?_)))))))))))
 refine jr (jm Z (jdq d0 fun q1 w1 => jcs E12 Z Z made10_ct (dc d0 dn) kn fun c17 => ?_))
 generalize hma : made10 s = ma at hr ⊢
 have hn0 := (right_wf hr).n0
 have hq := right_ins hr
 have hpA := preP_all hq hn0.2
 refine jalc J28 Z fun g4 => jdq (rMFunc.cB d0) fun q3 w3 => jsta k0 Z28 Z Z Z ⟨Z,w3.one,trivial⟩ (saf Z) (jn (jx (jq (jr (js (jla k0 A28 Z28 Z Z Z) (jcd E20 Z Z (regs_ct hr) (dc d0 dn) kn fun v19 q4 w4 => ja Z (jn (jx ?_))))))))
 refine jq (jr (ja Z (jn (jx (jq (jq (jr (ja Z (jn (jx (jb ?_)))))))))))
 have h00 : (preP ma 0 0).length = 0 := rfl
 refine jlp (fun (b : Nat) => ⟨b ≤ ma.Blocks.length,[dv (rL (rI .i64)) v19 (regsM ma),da rMFunc (vMFunc ma c17) ma],[bx g4 28 [.int .i64 ma.Params,c17]],[(2,.bool false),(3,.bool true),(4,.pointer (some ⟨g4,0,none⟩)),(5,v19),(6,.int .i64 (↑((preP ma b 0).length))),(7,.int .i64 (↑b))],ma.Blocks.length - b⟩) 0 (by omega) (dc d0 (dc d1 dn)) (kc k0 kn) ⟨Z,Z,Z,Z,eqI (by omega),eqI (by omega),trivial⟩ ?_
 rintro b; dsimp only; rintro hb
 have hbd := preP_bd hq (b := b) (by omega)
 refine jq (jq (jr (jm Z (js (jf F28_1 Z) (js (jl k0 O26 Z Z) (js (jln U26 (rMFunc.cB d1) Z) (js (jlss Z Z) (jn (jx ?_)))))))))
 refine jif Z (fun hc1 => ?_) (fun hc1 => ?_)
 refine jsk (jx (jq (jb (jr (jm Z (js (jf F28_1 Z) (js (jl k0 O26 Z Z) (jm Z (js (jix U26 Z37 (rMFunc.cB d1) Z Z Z (by omega)) (js (jf F37_1 Z) (jev (jlV (rMBlock.A_Ins (dix (rMFunc.cB d1) b (by omega))) O33 Z Z) fun v33 q6 w6 => ?_)))))))))))
 refine js (jln U33 d0 Z) (js (jadd Z Z (by omega)) (js (jadd Z Z (by omega)) (ja Z (jn (jbn (jx (jr (jm Z (js (jadd Z Z (by omega)) (ja Z (jn ?_)))))))))))
 have hpl := preP_step (m := ma) (b := b) (by omega)
 exact jag (b + 1) (by omega) (dc d1 (dc d2 dn)) (kc k0 kn) ⟨Z,Z,Z,Z,eqI (by omega),eqI (by omega),trivial⟩
 obtain rfl : b = ma.Blocks.length := by omega
 refine jex (jtx (jtx (jbh (jx (jq (jr (jm Z (jmk (m := ((preP ma ma.Blocks.length 0).length)) (r := (rI .i64)) U22 I3 Z Z Z Z Z (by omega) (wI (wp (by decide))) Z fun g38 => ja Z (jn (jx ?_))))))))))
 refine jq (jq (jr (ja Z (jn (jx (jb ?_))))))
 refine jlp (u2 fun (k : Nat) (c1 : List Int) => ⟨k ≤ (regsM ma).length ∧ c1.length = (preP ma (ma.Blocks.length) 0).length ∧ ∀ n,n < (preP ma (ma.Blocks.length) 0).length → ix c1 n = ((((regsM ma).take k).countP (fun r => rgS (rangesM ma r) n) : Nat) : Int),[dv (rL (rI .i64)) v19 (regsM ma),da rMFunc (vMFunc ma c17) ma],[gl X.n (rI .i64) 3 (.slice (some ⟨g38,0,none⟩) ((preP ma ma.Blocks.length 0).length) ((preP ma ma.Blocks.length 0).length)) c1,bx g4 28 [.int .i64 ma.Params,c17]],[(2,.bool false),(3,.bool true),(4,.pointer (some ⟨g4,0,none⟩)),(5,v19),(6,.int .i64 (↑((preP ma ma.Blocks.length 0).length))),(8,(.slice (some ⟨g38,0,none⟩) ((preP ma ma.Blocks.length 0).length) ((preP ma ma.Blocks.length 0).length))),(9,.int .i64 (↑k))],(regsM ma).length - k⟩) (0,List.replicate ((preP ma ma.Blocks.length 0).length) 0) ⟨by dsimp only; omega,by simp,fun n hn => by dsimp only; rw [ix_eq (by simpa using hn)]; simp⟩ (dc d0 (dc d1 dn)) (kd kn) ⟨Z,Z,Z,Z,Z,Z,eqI (by omega),trivial⟩ ?_
 rintro ⟨k,c1⟩; dsimp only [u2]; rintro ⟨hk,hl1,hc1v⟩
 refine jq (jq (jr (jm Z (jm Z (js (jln U22 d0 Z) (js (jlss Z Z) (jn (jx ?_))))))))
 refine jif Z (fun hc2 => ?_) (fun hc2 => ?_)
 refine jsk (jx (jq (jb (jq (jtl 5 Mixed (by kernel_rfl) (jt (jla k1 A28 Z28 Z Z Z) (jt (jmv Z) (jt (jmv Z) (jt (jix U22 Z3 d0 Z Z Z (by omega)) (jt (jlI (dix d0 k (by omega)) O3 Z) (jtt ?_)))))))))))
 refine jcd E21 Z Z (ranges_ct (ix (regsM ma) k)) (dc d1 dn) kn fun v50 q8 w8 => ja Z (jn (jx (jq (jr (ja Z (jn (jx (jb ?_))))))))
 have hkk : k < (regsM ma).length := by omega
 have hRS := ranges_rs hr (ix (regsM ma) k)
 have hRL := ranges_len hr (ix (regsM ma) k)
 have hrl := regs_len (m := ma)
 refine jlp (u2 fun (i : Nat) (c2 : List Int) => ⟨i ≤ (rangesM ma (ix (regsM ma) k)).length ∧ c2.length = (preP ma (ma.Blocks.length) 0).length ∧ ∀ n : Nat,n < (preP ma (ma.Blocks.length) 0).length → ix c2 n = ix c1 n + (((((rangesM ma (ix (regsM ma) k)).take i).countP (fun x => rgX x n) : Nat)) : Int),[dv (rL rRange) v50 (rangesM ma (ix (regsM ma) k)),dv (rL (rI .i64)) v19 (regsM ma),da rMFunc (vMFunc ma c17) ma],[gl X.n (rI .i64) 3 (.slice (some ⟨g38,0,none⟩) ((preP ma ma.Blocks.length 0).length) ((preP ma ma.Blocks.length 0).length)) c2,bx g4 28 [.int .i64 ma.Params,c17]],[(2,.bool false),(3,.bool true),(4,.pointer (some ⟨g4,0,none⟩)),(5,v19),(6,.int .i64 (↑((preP ma ma.Blocks.length 0).length))),(8,(.slice (some ⟨g38,0,none⟩) ((preP ma ma.Blocks.length 0).length) ((preP ma ma.Blocks.length 0).length))),(9,.int .i64 (↑k)),(10,v50),(11,.int .i64 (↑i))],(rangesM ma (ix (regsM ma) k)).length - i⟩) (0,c1) ⟨by dsimp only; omega,hl1,fun n hn => by dsimp only; simp⟩ (dc d0 (dc d1 (dc d2 dn))) (kd kn) ⟨Z,Z,Z,Z,Z,Z,Z,Z,eqI (by omega),trivial⟩ ?_
 rintro ⟨i,c2⟩; dsimp only [u2]; rintro ⟨hi,hl2,hc2v⟩
 refine jq (jq (jr (jm Z (jm Z (js (jln U44 d0 Z) (js (jlss Z Z) (jn (jx ?_))))))))
 refine jif Z (fun hc3 => ?_) (fun hc3 => ?_)
 refine jsk (jx (jq (jb (jq (jr (jm Z (jm Z (js (jix U44 Z47 d0 Z Z Z (by omega)) (js (jf F47_0 Z) (js (jlI (rRange.A_From (dix d0 i (by omega))) O3 Z) (js (jmax Z Z) ?_)))))))))))
 refine ja Z (jn (jx (jb ?_)))
 have hii : i < (rangesM ma (ix (regsM ma) k)).length := by omega
 have hsp := hRS.s i hii
 have hpv : -1 ≤ prvT (rangesM ma (ix (regsM ma) k)) i := prv_ge hRS (by omega)
 refine jlp (u2 fun (t : Nat) (c3 : List Int) => ⟨((ix (rangesM ma (ix (regsM ma) k)) i).From ≤ (t : Int) ∧ (t : Int) ≤ (ix (rangesM ma (ix (regsM ma) k)) i).To) ∧ c3.length = (preP ma (ma.Blocks.length) 0).length ∧ ∀ n : Nat,n < (preP ma (ma.Blocks.length) 0).length → ix c3 n = ix c2 n + if (ix (rangesM ma (ix (regsM ma) k)) i).From ≤ (n : Int) ∧ (n : Int) < t then 1 else 0,[dv (rL rRange) v50 (rangesM ma (ix (regsM ma) k)),dv (rL (rI .i64)) v19 (regsM ma),da rMFunc (vMFunc ma c17) ma],[gl X.n (rI .i64) 3 (.slice (some ⟨g38,0,none⟩) ((preP ma ma.Blocks.length 0).length) ((preP ma ma.Blocks.length 0).length)) c3,bx g4 28 [.int .i64 ma.Params,c17]],[(2,.bool false),(3,.bool true),(4,.pointer (some ⟨g4,0,none⟩)),(5,v19),(6,.int .i64 (↑((preP ma ma.Blocks.length 0).length))),(8,(.slice (some ⟨g38,0,none⟩) ((preP ma ma.Blocks.length 0).length) ((preP ma ma.Blocks.length 0).length))),(9,.int .i64 (↑k)),(10,v50),(11,.int .i64 (↑i)),(12,.int .i64 (↑t))],Int.toNat (ix (rangesM ma (ix (regsM ma) k)) i).To - t⟩) (Int.toNat (ix (rangesM ma (ix (regsM ma) k)) i).From,c2) ⟨by dsimp only; omega,hl2,fun n hn => by dsimp only; rw [if_neg (by omega)]; omega⟩ (dc d0 (dc d1 (dc d2 dn))) (kd kn) ⟨Z,Z,Z,Z,Z,Z,Z,Z,Z,eqI (by dsimp only; omega),trivial⟩ ?_
 rintro ⟨t,c3⟩; dsimp only [u2]; rintro ⟨ht,hl3,hc3v⟩
 refine jq (jq (jr (jm Z (jm Z (jm Z (js (jix U44 Z47 d0 Z Z Z (by omega)) (js (jf F47_1 Z) (js (jlI (rRange.A_To (dix d0 i (by omega))) O3 Z) (js (jlss Z Z) (jm Z (jg Z Z (.t _) (fun hg => jmv Z) ?_)))))))))))
 refine jg Z Z (.t _) (fun hg => jmv Z) (jg Z Z (.t _) (fun hg => jlss (evg Z hg) (evg Z hg)) (js (jand Z Z) (jn (jx ?_))))
 refine jif Z (fun hc4 => ?_) (fun hc4 => ?_)
 have htN : t < (preP ma (ma.Blocks.length) 0).length := by omega
 have hv3 := hc3v t htN
 rw [if_neg (by omega)] at hv3
 have hv2 := hc2v t htN
 have hv1 := hc1v t htN
 have hb1 := List.countP_le_length (p := fun r => rgS (rangesM ma r) (t : Int)) (l := (regsM ma).take k)
 have hb2 := List.countP_le_length (p := fun x => rgX x (t : Int)) (l := (rangesM ma (ix (regsM ma) k)).take i)
 rw [List.length_take] at hb1 hb2
 refine jsk (jx (jq (jb (jr (jm Z (jm Z (js (jig U22 Z3 k0 Z Z Z (by omega)) (js (jgI k0 (by omega) O3 Z) (js (jadd Z Z (by omega)) (js (jig U22 Z3 k0 Z Z Z (by omega)) (jsg k0 Z Z3 Z Z Z (by omega) (wI (wp (IntWalk.i64_in _ (by omega)))) ?_)))))))))))
 refine jn (jbn (jx (jr (jm Z (js (jadd Z Z (by omega)) (ja Z (jn ?_)))))))
 exact jag (t + 1,List.set c3 t ((ix c3 t) + 1)) ⟨by dsimp only; omega,by dsimp only; rw [List.length_set]; exact hl3,fun n hn => by dsimp only; rw [ix_set (by omega)]; by_cases h7 : n = t; (subst h7; rw [if_pos rfl,hc3v n hn,if_neg (by omega),if_pos (by omega)]; omega); (rw [if_neg h7,hc3v n hn]; congr 1; by_cases h8 : (ix (rangesM ma (ix (regsM ma) k)) i).From ≤ (n : Int) ∧ (n : Int) < t; (rw [if_pos h8,if_pos (by omega)]); (rw [if_neg h8,if_neg (by omega)]))⟩ (dc d0 (dc d1 (dc d2 dn))) (kd kn) ⟨Z,Z,Z,Z,Z,Z,Z,Z,Z,eqI (by omega),trivial⟩
 refine jex (jtx (jtx (jbh (jbn (jx (jr (jm Z (js (jadd Z Z (by omega)) (ja Z (jn ?_))))))))))
 exact jag (i + 1,c3) ⟨by dsimp only; omega,hl3,fun n hn => by dsimp only; rw [hc3v n hn,hc2v n hn,countP_next (by omega)]; unfold rgX; by_cases h7 : (ix (rangesM ma (ix (regsM ma) k)) i).From ≤ n ∧ (n : Int) < t; (rw [if_pos h7,if_pos (by simp; omega)]; omega); (rw [if_neg h7,if_neg (by simp; omega)]; omega)⟩ (dc d0 (dc d1 (dc d2 dn))) (kd kn) ⟨Z,Z,Z,Z,Z,Z,Z,Z,eqI (by omega),trivial⟩
 refine jex (jtx (jtx (jbh (jbn (jx (jr (jm Z (js (jadd Z Z (by omega)) (ja Z (jn ?_))))))))))
 exact jag (k + 1,c2) ⟨by dsimp only; omega,hl2,fun n hn => by dsimp only; rw [hc2v n hn,List.take_of_length_le (by omega),RS.once hRS,hc1v n hn,countP_next hkk]; split <;> simp⟩ (dc d1 (dc d2 dn)) (kd kn) ⟨Z,Z,Z,Z,Z,Z,eqI (by omega),trivial⟩
 refine jex (jtx (jtx (jbh (jx (jq (jr (ja Z (jn (jx (jq (jq ?_)))))))))))
 refine jr (ja Z (jn (jx (jb ?_))))
 have hcv : ∀ n,n < (preP ma (ma.Blocks.length) 0).length → ix c1 n = ((hasE ma (ix (preP ma ma.Blocks.length 0) n).1 (ix (preP ma ma.Blocks.length 0) n).2).length : Int) := fun n hn => by rw [hc1v n hn,List.take_of_length_le (by omega),count_held hr hn]
 refine jlp (u2 fun (n5 : Nat) (mx : Int) => ⟨n5 ≤ (preP ma (ma.Blocks.length) 0).length ∧ mx = ((preP ma ma.Blocks.length 0).take n5).foldl (fun s x => max s ((hasE ma x.1 x.2).length : Int)) 0,[da rMFunc (vMFunc ma c17) ma],[gl X.n (rI .i64) 3 (.slice (some ⟨g38,0,none⟩) ((preP ma ma.Blocks.length 0).length) ((preP ma ma.Blocks.length 0).length)) c1,bx g4 28 [.int .i64 ma.Params,c17]],[(2,.bool false),(3,.bool true),(4,.pointer (some ⟨g4,0,none⟩)),(6,.int .i64 (↑((preP ma ma.Blocks.length 0).length))),(8,(.slice (some ⟨g38,0,none⟩) ((preP ma ma.Blocks.length 0).length) ((preP ma ma.Blocks.length 0).length))),(13,.int .i64 mx),(14,.int .i64 (↑n5))],(preP ma (ma.Blocks.length) 0).length - n5⟩) (0,0) ⟨by dsimp only; omega,rfl⟩ (dc d1 dn) (kd kn) ⟨Z,Z,Z,Z,Z,eqI (by omega),eqI (by omega),trivial⟩ ?_
 rintro ⟨n5,mx⟩; dsimp only [u2]; rintro ⟨hn5,hmx⟩
 refine jq (jq (jr (jm Z (jm Z (js (jlss Z Z) (jn (jx ?_)))))))
 refine jif Z (fun hc5 => ?_) (fun hc5 => ?_)
 refine jsk (jx (jq (jb (jr (jm Z (jm Z (jm Z (js (jig U22 Z3 k0 Z Z Z (by omega)) (js (jgI k0 (by omega) O3 Z) (js (jmax Z Z) (ja Z ?_)))))))))))
 refine jn (jbn (jx (jr (jm Z (js (jadd Z Z (by omega)) (ja Z (jn ?_)))))))
 exact jag (n5 + 1,max mx (ix c1 n5)) ⟨by dsimp only; omega,by dsimp only; rw [take_ix (by omega),List.foldl_append,← hmx,hcv n5 (by omega)]; rfl⟩ (dc d0 dn) (kd kn) ⟨Z,Z,Z,Z,Z,eqI (by omega),eqI (by omega),trivial⟩
 refine jex (jtx (jtx (jbh (jx (jq (jr (jm Z (jm Z (jk Z Z (.t _) (jla k1 A28 Z28 Z Z Z) (jgk Z Z (.t _) (jcv E24 Z Z most_ct (dc d0 dn) kn ?_)))))))))))
 refine jk Z Z (.t _) (jmv Z) (jk Z Z (.t _) (jeql Z Z) ?_)
 rw [show (decide (mostM ma = mx)) = true from by rw [mostM_fold hr,hmx,List.take_of_length_le (by omega)]; simp]
 refine js (jand Z Z) (ja Z (jn (jx (jrt ?_))))
 exact jrB Z Z (by rfl)
end Go.Proofs.YtehhjlkmbdhckaaGreat
