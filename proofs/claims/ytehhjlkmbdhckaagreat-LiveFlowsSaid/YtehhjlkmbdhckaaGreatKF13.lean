/- Lemmas that the claim is made of. Conditions: each lemma names its own. -/
import Derived.Test.YtehhjlkmbdhckaaGreatKF12
import Derived.Test.YtehhjlkmbdhckaaGreatKF10
set_option linter.unusedSectionVars false
set_option linter.unusedSimpArgs false
set_option linter.unusedVariables false
namespace Go.Proofs.YtehhjlkmbdhckaaGreat
open Go.JE
def shL : D.MFunc := ⟨2,[⟨[],[⟨5,2,0,0,1,0,0,[]⟩,⟨5,3,0,2,0,0,0,[]⟩],⟨7,3,0,[],0⟩⟩]⟩
theorem shL_right : rightM shL = true := by decide
theorem shL_lo : loE shL.Blocks = [[]] := by
 have hw := right_wl shL_right
 have h1 : (loE shL.Blocks).length = 1 := loE_len hw
 have h2 : ix (loE shL.Blocks) 0 = [] := by
   apply List.eq_nil_iff_forall_not_mem.2
   intro r hr
   have h3 := (loE_mem hw (b := 0) (by decide)).1 hr
   cases h3 with
   | phi h _ => cases h
   | gen h _ _ => cases h
   | thru h _ _ _ => cases h
 match hl : loE shL.Blocks,h1,h2 with
 | [x],_,h2 =>
   have h4 : x = [] := h2
   rw [h4]
theorem shL_at : atM shL 0 1 = [0,2] := by
 unfold atM atE; rw [shL_lo]; decide
theorem shL_row : rowQ (atM shL 0 1) [0,2] = true := by rw [shL_at]; decide
theorem shL_tog1 : togM shL 0 2 = true := by
 unfold togM stM togS hasE atE; rw [shL_lo]; decide
theorem shL_tog2 : togM shL 0 3 = false := by
 unfold togM stM togS hasE atE; rw [shL_lo]; decide
theorem shL_most : mostM shL = 2 := by
 unfold mostM stM mostS hasE atE; rw [shL_lo]; decide
def rangesQ (a b : List D.Range) : Bool := decide (a = b)
theorem shL_rng : rangesQ (rangesM shL 0) [⟨0,2⟩] = true := by
 unfold rangesM stM rngS hasE atE; rw [shL_lo]; decide
theorem rng_ix {a b : List D.Range} (hl : a.length = b.length) (h : ∀ j,j < a.length → ix a j = ix b j) : a = b := List.ext_getElem hl fun j h1 h2 => by
 have := h j h1; rw [ix_eq h1,ix_eq h2] at this; exact this
theorem rng_ext {x y : D.Range} (h : x.From = y.From ∧ x.To = y.To) : x = y := by
 cases x; cases y; obtain ⟨h1,h2⟩ := h; dsimp only at h1 h2; subst h1; subst h2; rfl
def made10 (s : List Int) : D.MFunc := made7 (s.take 200)
theorem A47 : ∃ d,Tryz.prog.underlying 47 = some d ∧ (match d with | .struct _ | .array _ _ => true | _ => false) = true := ⟨_,Tryz.underlying47,rfl⟩
theorem E18 : Ent Tryz.prog 18 := ⟨_,Tryz.func18,by kernel_rfl,by kernel_rfl⟩
theorem E21 : Ent Tryz.prog 21 := ⟨_,Tryz.func21,by kernel_rfl,by kernel_rfl⟩
theorem E22 : Ent Tryz.prog 22 := ⟨_,Tryz.func22,by kernel_rfl,by kernel_rfl⟩
theorem E24 : Ent Tryz.prog 24 := ⟨_,Tryz.func24,by kernel_rfl,by kernel_rfl⟩
theorem E36 : Ent Tryz.prog 36 := ⟨_,Tryz.func36,by kernel_rfl,by kernel_rfl⟩
theorem E37 : Ent Tryz.prog 37 := ⟨_,Tryz.func37,by kernel_rfl,by kernel_rfl⟩
theorem S2_47 : St2 Tryz.prog 47 .i64 := ⟨⟨_,_,Tryz.underlying47,by decide,by decide,rfl,rfl,Tryz.underlying3,Tryz.underlying3⟩,by kernel_rfl,by kernel_rfl⟩
set_option maxRecDepth 8000
theorem lawRanges_ct {a0 : Value} {a : List D.Range} {a1 : Value} {b : List D.Range} : Tv Tryz.prog 36 #[a0,a1] [dv (rL rRange) a0 a,dv (rL rRange) a1 b] [] (.bool (rangesQ a b)) := by
 refine jenter (args := [a0,a1]) Tryz.func36 rfl rfl rfl fun w0 X => ?_
 refine jq (jr (ja Z (jn (jx (jq (jq (jr (jm Z (jdq d0 fun q1 w1 => js (jln U44 d0 Z) (jm Z ?_))))))))))
 refine jdq d1 fun q2 w2 => js (jln U44 d1 Z) (js (jneq Z Z) (jn (jx ?_)))
 refine jif Z (fun hc1 => ?_) (fun hc1 => ?_)
 refine jq (jr (ja Z (jn (jx (jrt (jtr ?_))))))
 exact jrB Z Z (by first | (exact decide_eq_true (rng_ix (by omega) (fun j hj => hall j (by omega)))) | (exact decide_eq_false (fun h9 => by subst h9; simp at hc3)) | (exact decide_eq_false (fun h9 => by subst h9; exact hc1 rfl)))
 refine jsk (jx (jq (jq (jr (ja Z (jn (jx (jb ?_))))))))
 refine jlp (fun (k : Nat) => ⟨k ≤ a.length ∧ ∀ j,j < k → ix a j = ix b j,[dv (rL rRange) a0 a,dv (rL rRange) a1 b],[],[(0,a0),(1,a1),(5,.int .i64 (↑k))],a.length - k⟩) 0 ⟨by omega,fun j hj => by omega⟩ (dc d0 (dc d1 dn)) kn ⟨Z,Z,eqI (by omega),trivial⟩ ?_
 rintro k; dsimp only; rintro ⟨hk,hall⟩
 refine jq (jq (jr (jm Z (jm Z (js (jln U44 d0 Z) (js (jlss Z Z) (jn (jx ?_))))))))
 refine jif Z (fun hc2 => ?_) (fun hc2 => ?_)
 refine jsk (jx (jq (jb (jq (jstl Mixed (by kernel_rfl) (jt (jmv Z) (jt (jmv Z) (jt (jix U44 Z47 d0 Z Z Z (by omega)) (jtA sRange (jlA (dix d0 k (by omega)) A47 Z47 Z) fun _ => jt (jmv Z) (jt (jmv Z) ?_))))))))))
 refine jt (jix U44 Z47 d2 Z Z Z (by omega)) (jtA sRange (jlA (dix d2 k (by omega)) A47 Z47 Z) fun _ => jt (jneqSt S2_47 Z Z) (jdn (jx ?_)))
 refine jif Z (fun hc3 => ?_) (fun hc3 => ?_)
 refine jq (jr (ja Z (jn (jx (jrt (jbr (jtr (jtr (jbr (jtr ?_))))))))))
 exact jrB Z Z (by first | (exact decide_eq_true (rng_ix (by omega) (fun j hj => hall j (by omega)))) | (exact decide_eq_false (fun h9 => by subst h9; simp at hc3)) | (exact decide_eq_false (fun h9 => by subst h9; exact hc1 rfl)))
 refine jsk (jbn (jx (jr (jm Z (js (jadd Z Z (by omega)) (ja Z (jn ?_)))))))
 exact jag (k + 1) ⟨by omega,fun j hj => by rcases Nat.lt_or_ge j k with h7 | h7; (exact hall j h7); (rw [show j = k by omega]; exact rng_ext (by simpa using hc3))⟩ (dc d2 (dc d3 dn)) kn ⟨Z,Z,eqI (by omega),trivial⟩
 refine jex (jtx (jtx (jbh (jx (jq (jr (ja Z (jn (jx (jrt ?_))))))))))
 exact jrB Z Z (by first | (exact decide_eq_true (rng_ix (by omega) (fun j hj => hall j (by omega)))) | (exact decide_eq_false (fun h9 => by subst h9; simp at hc3)) | (exact decide_eq_false (fun h9 => by subst h9; exact hc1 rfl)))
theorem shown_ct  : Tv Tryz.prog 11 #[] [] [] (.bool true) := by
 refine jenter (args := []) Tryz.func11 rfl rfl rfl fun w0 X => ?_
 refine jq (jr (ja Z (jn (jx (jq (jr (js (jbu (v := .agg #[.int .i64 5,.int .i64 2,.int .i64 0,.int .i64 0,.int .i64 1,.int .i64 0,.int .i32 0,.slice none 0 0]) Z (fun _ => by kernel_rfl)) (js (jbu (v := .agg #[.int .i64 5,.int .i64 3,.int .i64 0,.int .i64 2,.int .i64 0,.int .i64 0,.int .i32 0,.slice none 0 0]) Z (fun _ => by kernel_rfl)) (jlit (r := rMach) (l := [⟨5,2,0,0,1,0,0,[]⟩,⟨5,3,0,2,0,0,0,[]⟩]) U33 I69 (by decide) Z Z Z (lA (rMach.M (m := ⟨5,2,0,0,1,0,0,[]⟩) (c := (.slice none 0 0)) wN (wl 5) (wl 2) (wl 0) (wl 0) (wl 1) (wl 0) (wl 0)) (lA (rMach.M (m := ⟨5,3,0,2,0,0,0,[]⟩) (c := (.slice none 0 0)) wN (wl 5) (wl 3) (wl 0) (wl 2) (wl 0) (wl 0) (wl 0)) ln)) fun g4 => js (jbu (v := .agg #[.int .i64 7,.int .i64 3,.int .i64 0,.slice none 0 0,.int .i32 0]) Z (fun _ => by kernel_rfl)) (js (jbu (v := .agg #[.slice none 0 0,(.slice (some ⟨g4,0,none⟩) 2 2),.int .i64 7,.int .i64 3,.int .i64 0,.slice none 0 0,.int .i32 0]) Z (fun _ => by kernel_rfl)) ?_))))))))))
 refine jfz k0 (by (try simp) <;> omega) (jlit (r := rMBlock) (l := [⟨[],[⟨5,2,0,0,1,0,0,[]⟩,⟨5,3,0,2,0,0,0,[]⟩],⟨7,3,0,[],0⟩⟩]) U26 I37 (by decide) Z Z Z (lA (rMBlock.M (m := ⟨[],[⟨5,2,0,0,1,0,0,[]⟩,⟨5,3,0,2,0,0,0,[]⟩],⟨7,3,0,[],0⟩⟩) (c := (.slice none 0 0,(.slice (some ⟨g4,0,none⟩) 2 2),.slice none 0 0)) wN d0 wN (wl 7) (wl 3) (wl 0) (wl 0)) ln) fun g7 => js (jbu (v := .agg #[.int .i64 2,(.slice (some ⟨g7,0,none⟩) 1 1)]) Z (fun _ => by kernel_rfl)) (jalc J28 Z fun g1 => jsta k0 Z28 Z Z Z ⟨Z,Z,trivial⟩ (saf Z) (jn (jx (jq (jr (js (jla k0 A28 Z28 Z Z Z) (jfz k1 (by (try simp) <;> omega) (jcd E18 Z Z (at_ct (m := ⟨2,[⟨[],[⟨5,2,0,0,1,0,0,[]⟩,⟨5,3,0,2,0,0,0,[]⟩],⟨7,3,0,[],0⟩⟩]⟩) 0 1) (dc (rMFunc.M (m := ⟨2,[⟨[],[⟨5,2,0,0,1,0,0,[]⟩,⟨5,3,0,2,0,0,0,[]⟩],⟨7,3,0,[],0⟩⟩]⟩) (c := (.slice (some ⟨g7,0,none⟩) 1 1)) d0 (wl 2)) dn) kn fun v10 q3 w3 => ?_)))))))))
 refine jlit (r := (rI .i64)) (l := [0,2]) U22 I3 (by decide) Z Z Z (lV Z Z (wI (wl 0)) (lV Z Z (wI (wl 2)) ln)) fun g11 => jc E17 Z Z (Tv.temp1 1073741824 row_ct (by (try simp) <;> omega)) (dc d0 dn) (kc k0 kn) (fun _ => p0) (fun _ => p1) fun _ => ?_
 rw [show rowQ (atM (⟨2,[⟨[],[⟨5,2,0,0,1,0,0,[]⟩,⟨5,3,0,2,0,0,0,[]⟩],⟨7,3,0,[],0⟩⟩]⟩) 0 1) ([0,2]) = true from shL_row]
 refine jm Z (jk Z Z (.t _) (jla k1 A28 Z28 Z Z Z) (jgk Z Z (.t _) (jcd E21 Z Z (ranges_ct (m := ⟨2,[⟨[],[⟨5,2,0,0,1,0,0,[]⟩,⟨5,3,0,2,0,0,0,[]⟩],⟨7,3,0,[],0⟩⟩]⟩) 0) (dc (rMFunc.M (m := ⟨2,[⟨[],[⟨5,2,0,0,1,0,0,[]⟩,⟨5,3,0,2,0,0,0,[]⟩],⟨7,3,0,[],0⟩⟩]⟩) (c := (.slice (some ⟨g7,0,none⟩) 1 1)) d1 (wl 2)) dn) kn fun v15 q5 w5 => jk Z Z (.t _) (jbu (v := .agg #[.int .i64 0,.int .i64 2]) Z (fun _ => by kernel_rfl)) (jgk Z Z (.t _) (jlit (r := rRange) (l := [⟨0,2⟩]) U44 I47 (by decide) Z Z Z (lA (rRange.M (m := ⟨0,2⟩) (c := ()) (wl 0) (wl 2)) ln) fun g17 => jgk Z Z (.t _) (jc E36 Z Z (Tv.temp1 1073741824 lawRanges_ct (by (try simp) <;> omega)) (dc d0 dn) (kc k0 kn) (fun _ => p0) (fun _ => p1) fun _ => ?_))))))
 rw [show rangesQ (rangesM (⟨2,[⟨[],[⟨5,2,0,0,1,0,0,[]⟩,⟨5,3,0,2,0,0,0,[]⟩],⟨7,3,0,[],0⟩⟩]⟩) 0) ([⟨0,2⟩]) = true from shL_rng]
 refine js (jand Z Z) (jm Z (jk Z Z (.t _) (jla k2 A28 Z28 Z Z Z) (jgk Z Z (.t _) (jcv E22 Z Z (together_ct (m := ⟨2,[⟨[],[⟨5,2,0,0,1,0,0,[]⟩,⟨5,3,0,2,0,0,0,[]⟩],⟨7,3,0,[],0⟩⟩]⟩) 0 2) (dc (rMFunc.M (m := ⟨2,[⟨[],[⟨5,2,0,0,1,0,0,[]⟩,⟨5,3,0,2,0,0,0,[]⟩],⟨7,3,0,[],0⟩⟩]⟩) (c := (.slice (some ⟨g7,0,none⟩) 1 1)) d2 (wl 2)) dn) kn ?_))))
 rw [show togM (⟨2,[⟨[],[⟨5,2,0,0,1,0,0,[]⟩,⟨5,3,0,2,0,0,0,[]⟩],⟨7,3,0,[],0⟩⟩]⟩) 0 2 = true from shL_tog1]
 refine js (jand Z Z) (jm Z (jk Z Z (.t _) (jla k2 A28 Z28 Z Z Z) (jgk Z Z (.t _) (jcv E22 Z Z (together_ct (m := ⟨2,[⟨[],[⟨5,2,0,0,1,0,0,[]⟩,⟨5,3,0,2,0,0,0,[]⟩],⟨7,3,0,[],0⟩⟩]⟩) 0 3) (dc (rMFunc.M (m := ⟨2,[⟨[],[⟨5,2,0,0,1,0,0,[]⟩,⟨5,3,0,2,0,0,0,[]⟩],⟨7,3,0,[],0⟩⟩]⟩) (c := (.slice (some ⟨g7,0,none⟩) 1 1)) d2 (wl 2)) dn) kn ?_))))
 rw [show togM (⟨2,[⟨[],[⟨5,2,0,0,1,0,0,[]⟩,⟨5,3,0,2,0,0,0,[]⟩],⟨7,3,0,[],0⟩⟩]⟩) 0 3 = false from shL_tog2]
 refine jk Z Z (.t _) (jnot Z) (js (jand Z Z) (jm Z (jk Z Z (.t _) (jla k2 A28 Z28 Z Z Z) (jgk Z Z (.t _) (jcv E24 Z Z (most_ct (m := ⟨2,[⟨[],[⟨5,2,0,0,1,0,0,[]⟩,⟨5,3,0,2,0,0,0,[]⟩],⟨7,3,0,[],0⟩⟩]⟩)) (dc (rMFunc.M (m := ⟨2,[⟨[],[⟨5,2,0,0,1,0,0,[]⟩,⟨5,3,0,2,0,0,0,[]⟩],⟨7,3,0,[],0⟩⟩]⟩) (c := (.slice (some ⟨g7,0,none⟩) 1 1)) d2 (wl 2)) dn) kn ?_)))))
 rw [show mostM (⟨2,[⟨[],[⟨5,2,0,0,1,0,0,[]⟩,⟨5,3,0,2,0,0,0,[]⟩],⟨7,3,0,[],0⟩⟩]⟩) = 2 from shL_most]
 refine jk Z Z (.t _) (jeql Z Z) (js (jand Z Z) (ja Z (jn (jx (jrt ?_)))))
 exact jrB Z Z (by first | rfl | decide)
theorem made10_ct {a0 : Value} {s : List Int} {N0 : Nat} : Ts Tryz.prog 12 #[a0] [dv (rLn N0 (rI .i64)) a0 s] [] rMFunc vMFunc (made10 s) := by
 refine jenter (args := [a0]) Tryz.func12 rfl rfl rfl fun w0 X => ?_
 refine jq (jr (jalc J28 Z fun g2 => jn (jx (jq (jr (jm Z (jm Z (jdq d0 fun q1 w1 => js (jln U22 d0 Z) (js (jmin Z Z) ?_)))))))))
 refine js (jshi (hi := (Int.toNat (min (↑(List.length s)) 200))) U22 Z3 d0 Z Z (by omega) (by omega)) (jdq (dhi d0 (Int.toNat (min (↑(List.length s)) 200)) (by omega) (by omega)) fun q2 w2 => jcs E37 Z Z r7made_ct (dc (dhi d0 (Int.toNat (min (↑(List.length s)) 200)) (by omega) (by omega)) dn) kn fun c8 => jdq (rMFunc.cB d0) fun q4 w4 => jsta k0 Z28 Z Z Z ⟨Z,w4.one,trivial⟩ (saf Z) (jn (jx (jrt ?_))))
 exact jrcA (val := vMFunc) (b := made7 (List.take (Int.toNat (min (↑(List.length s)) 200)) s)) (c := c8) Z Z k0 A28 Z28 Z (by rw [← take_min s 200 200 rfl]; rfl) d0
end Go.Proofs.YtehhjlkmbdhckaaGreat
namespace Go.Proofs.YtehhjlkmbdhckaaGreat
open Go.JE
theorem there_nat {m : D.MFunc} (hr : rightM m = true) {b p : Nat} (hb : b < m.Blocks.length) (hp : p ≤ (ix m.Blocks b).Ins.length) : thereM m b p = true := there_mk ⟨hr,by omega,by omega,by omega,by rw [Int.toNat_natCast]; omega⟩
def prvT (l : List D.Range) (i : Nat) : Int := if i = 0 then -1 else (ix l (i - 1)).To
structure RS (l : List D.Range) (n : Int) : Prop where
 s : ∀ i,i < l.length → prvT l i < (ix l i).From ∧ (ix l i).From < (ix l i).To ∧ (ix l i).To ≤ n
theorem RS.step {r : Int} {l : List D.Range} {n : Nat} {S : List Int} (h : RS l n) : RS (rngS r l n S) ((n : Int) + 1) := by
 unfold rngS
 split
 · split
   · rename_i h2
     refine ⟨fun i hi => ?_⟩
     rw [List.length_set] at hi
     have h3 := h.s i hi
     have e : ∀ j,j < l.length → ix (l.set (l.length - 1) { ix l (l.length - 1) with To := (n : Int) + 1 }) j = if j = l.length - 1 then { ix l (l.length - 1) with To := (n : Int) + 1 } else ix l j := fun j hj => by
       rw [ix_set (by omega)]
     have e1 : prvT (l.set (l.length - 1) { ix l (l.length - 1) with To := (n : Int) + 1 }) i = prvT l i := by
       unfold prvT
       by_cases h0 : i = 0
       · rw [if_pos h0,if_pos h0]
       · rw [if_neg h0,if_neg h0,e (i - 1) (by omega),if_neg (by omega)]
     rw [e1,e i hi]
     by_cases h0 : i = l.length - 1
     · rw [if_pos h0]; subst h0; dsimp only; have := h2.2; omega
     · rw [if_neg h0]; omega
   · rename_i h2
     refine ⟨fun i hi => ?_⟩
     simp only [List.length_append,List.length_cons,List.length_nil] at hi
     have e : ∀ j,j < l.length → ix (l ++ [⟨(n : Int),(n : Int) + 1⟩]) j = ix l j := fun j hj => by
       rw [ix_eq (by simp; omega),ix_eq hj,List.getElem_append_left]
     by_cases h0 : i < l.length
     · have h3 := h.s i h0
       have e1 : prvT (l ++ [⟨(n : Int),(n : Int) + 1⟩]) i = prvT l i := by
         unfold prvT
         by_cases h0 : i = 0
         · rw [if_pos h0,if_pos h0]
         · rw [if_neg h0,if_neg h0,e (i - 1) (by omega)]
       rw [e1,e i h0]; omega
     · have h4 : i = l.length := by omega
       have e2 : ix (l ++ [(⟨(n : Int),(n : Int) + 1⟩ : D.Range)]) i = ⟨(n : Int),(n : Int) + 1⟩ := by
         rw [ix_eq (by simp; omega)]; simp [h4]
       rw [e2]
       have e1 : prvT (l ++ [⟨(n : Int),(n : Int) + 1⟩]) i < n := by
         unfold prvT
         by_cases h5 : i = 0
         · rw [if_pos h5]; omega
         · rw [if_neg h5,e (i - 1) (by omega)]
           have h6 := h.s (i - 1) (by omega)
           have h7 : ¬ (ix l (i - 1)).To = n := fun h8 => h2 ⟨by omega,by rw [← h4]; exact h8⟩
           omega
       dsimp only; omega
 · exact ⟨fun i hi => by have := h.s i hi; omega⟩
def rgX (x : D.Range) (n : Int) : Bool := decide (x.From ≤ n) && decide (n < x.To)
def rgS (l : List D.Range) (n : Int) : Bool := l.any (fun x => rgX x n)
theorem inS_iff {l : List D.Range} {n : Int} : rgS l n = true ↔ ∃ j,j < l.length ∧ (ix l j).From ≤ n ∧ n < (ix l j).To := by
 unfold rgS rgX
 rw [List.any_eq_true]
 constructor
 · rintro ⟨x,hx,h⟩
   obtain ⟨j,hj,e⟩ := List.getElem_of_mem hx
   refine ⟨j,hj,?_⟩
   rw [ix_eq hj,e]; simpa using h
 · rintro ⟨j,hj,h⟩
   exact ⟨_,ix_mem hj,by simpa using h⟩
theorem RS.above {l : List D.Range} {k n : Int} (h : RS l k) (hn : k ≤ n) : rgS l n = false := by
 cases h9 : rgS l n with
 | false => rfl
 | true =>
   obtain ⟨j,hj,h1,h2⟩ := inS_iff.1 h9
   have := h.s j hj; omega
theorem RS.put {r : Int} {l : List D.Range} {k : Nat} {S : List Int} (h : RS l k) {n : Int} : rgS (rngS r l k S) n = if n = k then decide (r ∈ S) else rgS l n := by
 have h0 := h.above (n := k) (Int.le_refl _)
 unfold rngS
 by_cases hr : r ∈ S
 · rw [if_pos hr]
   split
   · rename_i h2
     have hl : l.length - 1 < l.length := by omega
     have hlast := h.s (l.length - 1) hl
     rw [Bool.eq_iff_iff,inS_iff]
     have e : ∀ j,j < l.length → ix (l.set (l.length - 1) { ix l (l.length - 1) with To := (k : Int) + 1 }) j = if j = l.length - 1 then { ix l (l.length - 1) with To := (k : Int) + 1 } else ix l j := fun j hj => by rw [ix_set (by omega)]
     rw [List.length_set]
     by_cases hn : n = k
     · rw [if_pos hn,decide_eq_true_eq]
       refine ⟨fun _ => hr,fun _ => ⟨l.length - 1,hl,?_⟩⟩
       rw [e _ hl,if_pos rfl]; dsimp only; omega
     · rw [if_neg hn,inS_iff]
       constructor
       · rintro ⟨j,hj,h3⟩
         rw [e j hj] at h3
         split at h3
         · rename_i h4; subst h4; dsimp only at h3; exact ⟨_,hl,by omega,by omega⟩
         · exact ⟨j,hj,h3⟩
       · rintro ⟨j,hj,h3⟩
         refine ⟨j,hj,?_⟩
         rw [e j hj]
         split
         · rename_i h4; subst h4; dsimp only; omega
         · exact h3
   · rw [Bool.eq_iff_iff]
     unfold rgS
     rw [List.any_append,Bool.or_eq_true]
     by_cases hn : n = k
     · rw [if_pos hn,decide_eq_true_eq]
       exact ⟨fun _ => hr,fun _ => .inr (by subst hn; simp [rgX]; omega)⟩
     · rw [if_neg hn]
       constructor
       · rintro (h3 | h3)
         · exact h3
         · simp [rgX] at h3; omega
       · exact .inl
 · rw [if_neg hr]
   by_cases hn : n = k
   · rw [if_pos hn,hn,h0,decide_eq_false hr]
   · rw [if_neg hn]
theorem RS.once {n : Int} : ∀ {l : List D.Range} {k : Int},RS l k → l.countP (fun x => rgX x n) = if rgS l n = true then 1 else 0 := by
 intro l
 have gen : ∀ (l : List D.Range) (lo : Int),(∀ i,i < l.length → (if i = 0 then lo else (ix l (i - 1)).To) < (ix l i).From ∧ (ix l i).From < (ix l i).To) → (n ≤ lo → l.countP (fun x => rgX x n) = 0) ∧ l.countP (fun x => rgX x n) = if rgS l n = true then 1 else 0 := by
   intro l
   induction l with
   | nil => intro lo h; exact ⟨fun _ => rfl,rfl⟩
   | cons x l ih =>
     intro lo h
     have h0 := h 0 (by simp)
     rw [if_pos rfl] at h0
     have h0' : lo < x.From ∧ x.From < x.To := h0
     obtain ⟨i1,i2⟩ := ih x.To (fun i hi => by
       have h1 := h (i + 1) (by simpa using hi)
       rw [if_neg (by omega)] at h1
       have e1 : ix (x :: l) (i + 1) = ix l i := by simp [ix]
       rw [e1,Nat.add_sub_cancel] at h1
       by_cases h9 : i = 0
       · subst h9; rw [if_pos rfl]; exact h1
       · rw [if_neg h9]
         have e2 : ix (x :: l) i = ix l (i - 1) := by
           obtain ⟨j,rfl⟩ : ∃ j,i = j + 1 := ⟨i - 1,by omega⟩
           simp [ix]
         rw [e2] at h1; exact h1)
     have ex : rgX x n = true ↔ x.From ≤ n ∧ n < x.To := by unfold rgX; simp
     rw [List.countP_cons]
     have es : rgS (x :: l) n = (rgX x n || rgS l n) := by unfold rgS; rw [List.any_cons]
     rw [es]
     by_cases hx : rgX x n = true
     · have h2 := ex.1 hx
       rw [i1 (by omega),if_pos hx,hx]
       exact ⟨fun h3 => by omega,by simp⟩
     · rw [if_neg hx,show rgX x n = false from by simpa using hx,Bool.false_or]
       exact ⟨fun h3 => by rw [i1 (by omega)],by rw [i2]; simp⟩
 intro k h
 exact (gen l (-1) (fun i hi => by have h1 := h.s i hi; unfold prvT at h1; exact ⟨h1.1,h1.2.1⟩)).2
theorem setsI_ix {m : D.MFunc} (hr : rightM m = true) {b : Nat} (hb : b < m.Blocks.length) : ix (setsI m) b = atE m.Blocks b 0 := by
 unfold setsI; rw [if_pos hr,ix_eq (by simpa using hb)]; simp
theorem setsO_ix {m : D.MFunc} (hr : rightM m = true) {b : Nat} : ix (setsO m) b = ix (loE m.Blocks) b := by
 unfold setsO; rw [if_pos hr]
theorem setsI_len {m : D.MFunc} (hr : rightM m = true) : (setsI m).length = m.Blocks.length := by
 unfold setsI; rw [if_pos hr]; simp
theorem setsO_len {m : D.MFunc} (hr : rightM m = true) : (setsO m).length = m.Blocks.length := by
 unfold setsO; rw [if_pos hr,loE_len (right_wl hr)]
theorem atM_nat {m : D.MFunc} (hr : rightM m = true) {b p : Nat} (hb : b < m.Blocks.length) (hp : p ≤ (ix m.Blocks b).Ins.length) : atM m b p = atE m.Blocks b p := by
 unfold atM; rw [if_pos (there_nat hr hb hp),Int.toNat_natCast,Int.toNat_natCast]
def flowB (m : D.MFunc) (b : Nat) (r : Int) (to : Int) : Bool := phiA (ix m.Blocks to.toNat).Phis b r || (!phiD (ix m.Blocks to.toNat).Phis r && hasL (ix (setsI m) to.toNat) r)
theorem flow_out {m : D.MFunc} (hr : rightM m = true) {b : Nat} (hb : b < m.Blocks.length) {r : Int} : (ix m.Blocks b).End.To.any (flowB m b r) = hasL (ix (setsO m) b) r := by
 have hw := right_wl hr
 unfold hasL
 rw [setsO_ix hr,Bool.eq_iff_iff,decide_eq_true_eq,loE_mem hw hb,List.any_eq_true]
 have at0 : ∀ {to : Int},to ∈ (ix m.Blocks b).End.To → (flowB m b r to = true ↔ r ∈ phiT (ix m.Blocks to.toNat) b ∨ (r ∉ dsts (ix m.Blocks to.toNat) ∧ backB (ix m.Blocks to.toNat) 0 r (decide (r ∈ ix (loE m.Blocks) to.toNat)) = true)) := fun {to} ht => by
   unfold flowB hasL
   rw [phiA_iff,phiD_iff,setsI_ix hr (hw.t hb to ht),at_f]
   simp
 constructor
 · rintro ⟨to,ht,h⟩
   rcases (at0 ht).1 h with h1 | ⟨h1,h2⟩
   · exact .phi ht h1
   · rcases backB_or h2 with h3 | ⟨h3,h4⟩
     · exact .gen ht h1 h3
     · exact .thru ht h1 h4 ((loE_mem hw (hw.t hb to ht)).1 (by simpa using h3))
 · intro h
   cases h with
   | @phi b to r ht h1 => exact ⟨to,ht,(at0 ht).2 (.inl h1)⟩
   | @gen b to r ht h1 h2 => exact ⟨to,ht,(at0 ht).2 (.inr ⟨h1,backB_up (fun h => by cases h) h2⟩)⟩
   | @thru b to r ht h1 h2 h3 => exact ⟨to,ht,(at0 ht).2 (.inr ⟨h1,by rw [decide_eq_true ((loE_mem hw (hw.t hb to ht)).2 h3)]; exact h2⟩)⟩
theorem at_end {m : D.MFunc} (hr : rightM m = true) {b : Nat} {r : Int} : hasL (atE m.Blocks b (ix m.Blocks b).Ins.length) r = (hasL (ix (setsO m) b) r || hasL (nM9 (ix m.Blocks b).End) r) := by
 unfold hasL atE
 rw [List.drop_length,sAt,setsO_ix hr,← Bool.decide_or,decide_eq_decide]; exact uniS_mem
theorem at_step {m : D.MFunc} {b p : Nat} (hp : p < (ix m.Blocks b).Ins.length) {r : Int} : hasL (atE m.Blocks b p) r = (hasL (takesM (ix (ix m.Blocks b).Ins p)) r || (hasL (atE m.Blocks b (p + 1)) r && !hasL (makesM (ix (ix m.Blocks b).Ins p)) r)) := by
 unfold hasL atE
 rw [drop_ix hp,sAt,Bool.eq_iff_iff]
 simp only [Bool.or_eq_true,Bool.and_eq_true,decide_eq_true_eq,Bool.not_eq_true',decide_eq_false_iff_not]
 rw [uniS_mem,delS_mem]
 exact ⟨fun h => h.symm,fun h => h.symm⟩
theorem phiA_next {l : List D.Phi} {fr r : Int} {k : Nat} (h : k < l.length) : phiA (l.take (k + 1)) fr r = (phiA (l.take k) fr r || (ix l k).In.any (inM fr r)) := any_next h
theorem phiD_next {l : List D.Phi} {r : Int} {k : Nat} (h : k < l.length) : phiD (l.take (k + 1)) r = (phiD (l.take k) r || decide ((ix l k).Dst = r)) := any_next h
theorem E11 : Ent Tryz.prog 11 := ⟨_,Tryz.func11,by kernel_rfl,by kernel_rfl⟩
theorem E12 : Ent Tryz.prog 12 := ⟨_,Tryz.func12,by kernel_rfl,by kernel_rfl⟩
set_option maxRecDepth 8000
attribute [local irreducible] made10
end Go.Proofs.YtehhjlkmbdhckaaGreat
namespace Go.JE
variable {P : Program} {D Ds : List Dt} {L M Ls : List Res} {e : Env} {X : Cx} {n : Fs} {w0 : World} {Q : Exit → Act → World → Prop} {FS : PH}
variable {ops : Array Oper} {op : Op} {d : Nat} {ty : TypeId} {pos : String} {af : Array Edge} {rest l : List Oper} {z : Bool} {is : Od} {i : Nat}
theorem jygAx {α β : Type} [Inhabited β] {r : Rp α} {val : α → β → Value} {a : α} (hs : Sr r val) {j t : Nat} {want B : Bool} {u : Value} (hi : l[i]? = some ⟨some d,op,ty,pos,af,some (j,want)⟩) (hj : (l.toArray[j]?).bind (·.dst) = some t) (hu : lk e t = some u) (hB : Gd u want B) (h : B = true → OX P Ds e op (fun v => da r v a)) (K : ∀ c,AH P n w0 l Q z X FS ((da r (val a c) a).if B :: Ds) Ls is ((da r (val a c) a).if B :: D) L ((d,gv B (val a c)) :: e)) (hd : Nat.blt d n.sz = true := by rfl) (ht : Nat.blt t n.sz = true := by rfl) : AH P n w0 l Q z X FS Ds Ls (.a i is) D L e := fun F H h1 h2 hp hS hs' listed hO => by
 obtain ⟨hf,hr,hz,hO⟩ := okA hO
 have hS' := SS.get hS (by simp)
 cases B with
 | true =>
   obtain ⟨v,h3,h4⟩ := h rfl FS H hS'.inh h2
   obtain ⟨c,rfl⟩ := hs.op h4
   have h5 : ((da r (val a c) a).if true).sat FS := fun _ => h4
   exact AF.gtake i hi hs' hf hr hS' hj hu hB (fun _ H' hS'' => h3 H' hS''.inh) (K c F H h1 ⟨h5,h2⟩ (hp.datum (Dt.up _ h1 h5)) (.inl hS') hs' _ hO) hd ht hz
 | false =>
   have h5 : ∀ F,((da r (val a default) a).if false).sat F := fun _ h => by cases h
   exact AF.gtake (v := val a default) i hi hs' hf hr hS' hj hu hB (fun h => by cases h) (K default F H h1 ⟨h5 _,h2⟩ (hp.datum (h5 _)) (.inl hS') hs' _ hO) hd ht hz
end Go.JE
namespace Go.Proofs.YtehhjlkmbdhckaaGreat
open Go.JE
theorem E25 : Ent Tryz.prog 25 := ⟨_,Tryz.func25,by kernel_rfl,by kernel_rfl⟩
theorem E28 : Ent Tryz.prog 28 := ⟨_,Tryz.func28,by kernel_rfl,by kernel_rfl⟩
set_option maxRecDepth 8000
attribute [local irreducible] made10
set_option maxRecDepth 20000 in
set_option maxHeartbeats 4000000 in
theorem liveFlows_ct {a0 : Value} {s : List Int} {N0 : Nat} : Tv Tryz.prog 8 #[a0] [dv (rLn N0 (rI .i64)) a0 s] [] (.bool true) := by
 refine jenter (args := [a0]) Tryz.func8 rfl rfl rfl fun w0 X => ?_
 have hr : rightM (made10 s) = true := by unfold made10; exact made7_right _
 refine jq (jr (ja Z (jn (jx (jq (jr (jcv E11 Z Z shown_ct dn kn (ja Z (jn (jx (jq ?_)))))))))))
 refine jr (jm Z (jdq d0 fun q1 w1 => jcs E12 Z Z made10_ct (dc d0 dn) kn fun c26 => ?_))
 generalize hma : made10 s = ma at hr ⊢
 have hq := right_ins hr
 have hw := right_wl hr
 have hsI := setsI_len hr
 have hsO := setsO_len hr
 refine jalc J28 Z fun g4 => jdq (rMFunc.cB d0) fun q3 w3 => jsta k0 Z28 Z Z Z ⟨Z,w3.one,trivial⟩ (saf Z) (jn (jx (jq (jr (js (jla k0 A28 Z28 Z Z Z) (jc E25 Z Z sets_ct (dc d0 dn) kn (fun _ => p2) (fun _ => p0) fun c29 => jm Z (js (jex' Z Z) (js (jex' Z Z) ?_))))))))
 refine ja Z (ja Z (jn (jx (jq (jr (js (jla k0 A28 Z28 Z Z Z) (jcd E20 Z Z (regs_ct hr) (dc d2 dn) kn fun v33 q6 w6 => ja Z (jn (jx (jq ?_))))))))))
 refine jq (jr (jm Z (js (jnot Z) (jm Z (jk Z Z (.f _) (jmv Z) (jdq d1 fun q8 w8 => jk Z Z (.f _) (jln U52 d1 Z) (jk Z Z (.f _) (jf F28_1 Z) (jk Z Z (.f _) (jl k0 O26 Z Z) (jk Z Z (.f _) (jln U26 (rMFunc.cB d3) Z) (jk Z Z (.f _) (jneq Z Z) ?_))))))))))
 refine js (jor Z Z) (jm Z (jg Z Z (.f _) (fun hg => jmv Z) (jdq d2 fun q9 w9 => jg Z Z (.f _) (fun hg => jln U52 d2 (evg Z hg)) (jg Z Z (.f _) (fun hg => jf F28_1 Z) (jg Z Z (.f _) (fun hg => jl k0 O26 (evg Z hg) Z) (jg Z Z (.f _) (fun hg => jln U26 (rMFunc.cB d3) (evg Z hg)) (jg Z Z (.f _) (fun hg => jneq (evg Z hg) (evg Z hg)) (js (jor Z Z) ?_))))))))
 rw [show (((!true) || (!decide (((List.length (setsI ma) : Nat) : Int) = ((List.length ma.Blocks : Nat) : Int)))) || (!decide (((List.length (setsO ma) : Nat) : Int) = ((List.length ma.Blocks : Nat) : Int)))) = false from by rw [hsI,hsO]; simp]
 refine jn (jx ?_)
 refine jif Z (fun hc1 => ?_) (fun hc1 => ?_)
 exact absurd hc1 (by simp)
 refine jsk (jx (jq (jq (jr (ja Z (jn (jx (jb ?_))))))))
 refine jlp (fun (b : Nat) => ⟨b ≤ ma.Blocks.length,[dv (rL (rI .i64)) v33 (regsM ma),dv (rL (rL (rI .i64))) c29.1 (setsI ma),dv (rL (rL (rI .i64))) c29.2 (setsO ma),da rMFunc (vMFunc ma c26) ma],[bx g4 28 [.int .i64 ma.Params,c26]],[(4,.pointer (some ⟨g4,0,none⟩)),(5,c29.1),(6,c29.2),(7,v33),(8,.int .i64 (↑b))],ma.Blocks.length - b⟩) 0 (by omega) (dc d0 (dc d1 (dc d2 (dc d3 dn)))) (kc k0 kn) ⟨Z,Z,Z,Z,eqI (by omega),trivial⟩ ?_
 rintro b; dsimp only; rintro hb
 refine jq (jq (jr (jm Z (js (jf F28_1 Z) (js (jl k0 O26 Z Z) (js (jln U26 (rMFunc.cB d3) Z) (js (jlss Z Z) (jn (jx ?_)))))))))
 refine jif Z (fun hc2 => ?_) (fun hc2 => ?_)
 refine jsk (jx (jq (jb (jq (jr (js (jf F28_1 Z) (js (jl k0 O26 Z Z) (jm Z (js (jix U26 Z37 (rMFunc.cB d3) Z Z Z (by omega)) (jA3 sMBlock (jlA (dix (rMFunc.cB d3) b (by omega)) A37 Z37 Z) fun c63a c63b c63c => jalc J37 Z fun g9 => ?_))))))))))
 refine jdq (rMBlock.cP d0) fun q11 w11 => jdq (rMBlock.cI d0) fun q12 w12 => jdq (rMBlock.cT d0) fun q13 w13 => jsta k0 Z37 Z Z Z ⟨w11.one,w12.one,Z,Z,Z,w13.one,Z,trivial⟩ (saf Z) (jn (jx (jq (jr (js (jla k1 A28 Z28 Z Z Z) (jm Z (js (jf F37_1 Z) (js (jl k0 O33 Z Z) ?_))))))))
 refine js (jln U33 (rMBlock.cI d0) Z) (jcd E18 Z Z (at_ct ↑b (↑(List.length ((ix ma.Blocks b).Ins)))) (dc d4 dn) kn fun v69 q14 w14 => ja Z (jn (jx (jq (jq (jr (ja Z (jn (jx (jb ?_))))))))))
 have hbb : b < ma.Blocks.length := by omega
 have hqb := hq b hbb
 refine jlp (fun (i : Nat) => ⟨i ≤ (regsM ma).length,[dv (rL (rI .i64)) v69 (atM ma ↑b (↑(List.length ((ix ma.Blocks b).Ins)))),da rMBlock (vMBlock (ix ma.Blocks b) (c63a,c63b,c63c)) (ix ma.Blocks b),dv (rL (rI .i64)) v33 (regsM ma),dv (rL (rL (rI .i64))) c29.1 (setsI ma),dv (rL (rL (rI .i64))) c29.2 (setsO ma),da rMFunc (vMFunc ma c26) ma],[bx g9 37 [c63a,c63b,.int .i64 (((ix ma.Blocks b).End).Op),.int .i64 (((ix ma.Blocks b).End).A),.int .i64 (((ix ma.Blocks b).End).B),c63c,.int .i32 (((ix ma.Blocks b).End).Imm)],bx g4 28 [.int .i64 ma.Params,c26]],[(4,.pointer (some ⟨g4,0,none⟩)),(5,c29.1),(6,c29.2),(7,v33),(8,.int .i64 (↑b)),(9,.pointer (some ⟨g9,0,none⟩)),(10,v69),(11,.int .i64 (↑i))],(regsM ma).length - i⟩) 0 (by omega) (dc d0 (dc d1 (dc d2 (dc d3 (dc d4 (dc d5 dn)))))) (kd kn) ⟨Z,Z,Z,Z,Z,Z,Z,eqI (by omega),trivial⟩ ?_
 rintro i; dsimp only; rintro hi
 refine jq (jq (jr (jm Z (jm Z (js (jln U22 d2 Z) (js (jlss Z Z) (jn (jx ?_))))))))
 refine jif Z (fun hc3 => ?_) (fun hc3 => ?_)
 refine jsk (jx (jq (jb (jq (jr (jm Z (jm Z (js (jix U22 Z3 d2 Z Z Z (by omega)) (js (jlI (dix d2 i (by omega)) O3 Z) (ja Z (jn ?_)))))))))))
 refine jx (jq (jr (ja Z (jn (jx (jq (jq (jr (ja Z (jn (jx ?_)))))))))))
 refine jb ?_
 refine jlp (u2 fun (k : Nat) (o1 : Bool) => ⟨k ≤ (ix ma.Blocks b).End.To.length ∧ o1 = ((ix ma.Blocks b).End.To.take k).any (flowB ma b (ix (regsM ma) i)),[dv (rL (rI .i64)) v69 (atM ma ↑b (↑(List.length ((ix ma.Blocks b).Ins)))),da rMBlock (vMBlock (ix ma.Blocks b) (c63a,c63b,c63c)) (ix ma.Blocks b),dv (rL (rI .i64)) v33 (regsM ma),dv (rL (rL (rI .i64))) c29.1 (setsI ma),dv (rL (rL (rI .i64))) c29.2 (setsO ma),da rMFunc (vMFunc ma c26) ma],[bx g9 37 [c63a,c63b,.int .i64 (((ix ma.Blocks b).End).Op),.int .i64 (((ix ma.Blocks b).End).A),.int .i64 (((ix ma.Blocks b).End).B),c63c,.int .i32 (((ix ma.Blocks b).End).Imm)],bx g4 28 [.int .i64 ma.Params,c26]],[(4,.pointer (some ⟨g4,0,none⟩)),(5,c29.1),(6,c29.2),(7,v33),(8,.int .i64 (↑b)),(9,.pointer (some ⟨g9,0,none⟩)),(10,v69),(11,.int .i64 (↑i)),(12,.int .i64 (ix (regsM ma) i)),(13,.bool o1),(14,.int .i64 (↑k))],(ix ma.Blocks b).End.To.length - k⟩) (0,false) ⟨by dsimp only; omega,rfl⟩ (dc d0 (dc d1 (dc d2 (dc d3 (dc d4 (dc d5 dn)))))) (kd kn) ⟨Z,Z,Z,Z,Z,Z,Z,Z,Z,Z,eqI (by omega),trivial⟩ ?_
 rintro ⟨k,o1⟩; dsimp only [u2]; rintro ⟨hk,ho1⟩
 refine jq (jq (jr (jm Z (js (jf F37_2 Z) (js (jf F35_3 Z) (js (jl k0 O22 Z Z) (js (jln U22 (rMBlock.cT d1) Z) (js (jlss Z Z) (jn (jx ?_))))))))))
 refine jif Z (fun hc4 => ?_) (fun hc4 => ?_)
 refine jsk (jx (jq (jb (jq (jr (js (jf F37_2 Z) (js (jf F35_3 Z) (js (jl k0 O22 Z Z) (jm Z (js (jix U22 Z3 (rMBlock.cT d1) Z Z Z (by omega)) (js (jlI (dix (rMBlock.cT d1) k (by omega)) O3 Z) ?_)))))))))))
 refine ja Z (jn (jx (jq (jr (ja Z (jn (jx (jq (jq (jr (ja Z ?_)))))))))))
 refine jn (jx (jb ?_))
 have hkk : k < (ix ma.Blocks b).End.To.length := by omega
 have hto := hw.to b hbb (ix (ix ma.Blocks b).End.To k) (ix_mem hkk)
 refine jlp (u3 fun (j : Nat) (o2 : Bool) (m2 : Bool) => ⟨j ≤ (ix ma.Blocks (Int.toNat (ix (ix ma.Blocks b).End.To k))).Phis.length ∧ o2 = (o1 || phiA ((ix ma.Blocks (Int.toNat (ix (ix ma.Blocks b).End.To k))).Phis.take j) b (ix (regsM ma) i)) ∧ m2 = phiD ((ix ma.Blocks (Int.toNat (ix (ix ma.Blocks b).End.To k))).Phis.take j) (ix (regsM ma) i),[dv (rL (rI .i64)) v69 (atM ma ↑b (↑(List.length ((ix ma.Blocks b).Ins)))),da rMBlock (vMBlock (ix ma.Blocks b) (c63a,c63b,c63c)) (ix ma.Blocks b),dv (rL (rI .i64)) v33 (regsM ma),dv (rL (rL (rI .i64))) c29.1 (setsI ma),dv (rL (rL (rI .i64))) c29.2 (setsO ma),da rMFunc (vMFunc ma c26) ma],[bx g9 37 [c63a,c63b,.int .i64 (((ix ma.Blocks b).End).Op),.int .i64 (((ix ma.Blocks b).End).A),.int .i64 (((ix ma.Blocks b).End).B),c63c,.int .i32 (((ix ma.Blocks b).End).Imm)],bx g4 28 [.int .i64 ma.Params,c26]],[(4,.pointer (some ⟨g4,0,none⟩)),(5,c29.1),(6,c29.2),(7,v33),(8,.int .i64 (↑b)),(9,.pointer (some ⟨g9,0,none⟩)),(10,v69),(11,.int .i64 (↑i)),(12,.int .i64 (ix (regsM ma) i)),(13,.bool o2),(14,.int .i64 (↑k)),(15,.int .i64 (ix (((ix ma.Blocks b).End).To) k)),(16,.bool m2),(17,.int .i64 (↑j))],(ix ma.Blocks (Int.toNat (ix (ix ma.Blocks b).End.To k))).Phis.length - j⟩) (0,o1,false) ⟨by dsimp only; omega,by simp [phiA],rfl⟩ (dc d0 (dc d1 (dc d2 (dc d3 (dc d4 (dc d5 dn)))))) (kd kn) ⟨Z,Z,Z,Z,Z,Z,Z,Z,Z,Z,Z,Z,Z,eqI (by omega),trivial⟩ ?_
 rintro ⟨j,o2,m2⟩; dsimp only [u3]; rintro ⟨hj,ho2,hm2⟩
 refine jq (jq (jr (jm Z (js (jf F28_1 Z) (js (jl k1 O26 Z Z) (jm Z (js (jix (i := (Int.toNat (ix (((ix ma.Blocks b).End).To) k))) U26 Z37 (rMFunc.cB d5) Z Z (by omega) (by omega)) (js (jf F37_0 Z) (jev (jlV (rMBlock.A_Phis (dix (rMFunc.cB d5) (Int.toNat (ix (((ix ma.Blocks b).End).To) k)) (by omega))) O32 Z Z) fun v100 q16 w16 => js (jln U32 d0 Z) (js (jlss Z Z) ?_))))))))))
 refine jn (jx ?_)
 refine jif Z (fun hc5 => ?_) (fun hc5 => ?_)
 refine jsk (jx (jq (jb (jq (jr (js (jf F28_1 Z) (js (jl k1 O26 Z Z) (jm Z (js (jix (i := (Int.toNat (ix (((ix ma.Blocks b).End).To) k))) U26 Z37 (rMFunc.cB d6) Z Z (by omega) (by omega)) (js (jf F37_0 Z) (jev (jlV (rMBlock.A_Phis (dix (rMFunc.cB d6) (Int.toNat (ix (((ix ma.Blocks b).End).To) k)) (by omega))) O32 Z Z) fun v110 q18 w18 => ?_)))))))))))
 refine jm Z (js (jix U32 Z62 d0 Z Z Z (by omega)) (jA sPhi (jlA (dix d0 j (by omega)) A62 Z62 Z) fun c113 => jalc J62 Z fun g18 => jdq (rPhi.c_In d0) fun q21 w21 => jsta k0 Z62 Z Z Z ⟨Z,w21.one,trivial⟩ (saf Z) (jn (jx (jq (jr (jm Z (jm Z ?_))))))))
 refine jg Z Z (.f _) (fun hg => jf F62_0 Z) (jg Z Z (.f _) (fun hg => jl k0 O3 (evg Z hg) Z) (jg Z Z (.f _) (fun hg => jmv Z) (jg Z Z (.f _) (fun hg => jeql (evg Z hg) (evg Z hg)) (js (jor Z Z) (ja Z (jn (jx (jq (jr (ja Z (jn ?_)))))))))))
 refine jx (jb ?_)
 refine jlp (u2 fun (n : Nat) (o3 : Bool) => ⟨n ≤ (ix (ix ma.Blocks (Int.toNat (ix (ix ma.Blocks b).End.To k))).Phis j).In.length ∧ o3 = (o2 || ((ix (ix ma.Blocks (Int.toNat (ix (ix ma.Blocks b).End.To k))).Phis j).In.take n).any (inM b (ix (regsM ma) i))),[da rPhi (vPhi (ix ((ix ma.Blocks (Int.toNat (ix (((ix ma.Blocks b).End).To) k))).Phis) j) c113) (ix ((ix ma.Blocks (Int.toNat (ix (((ix ma.Blocks b).End).To) k))).Phis) j),dv (rL (rI .i64)) v69 (atM ma ↑b (↑(List.length ((ix ma.Blocks b).Ins)))),da rMBlock (vMBlock (ix ma.Blocks b) (c63a,c63b,c63c)) (ix ma.Blocks b),dv (rL (rI .i64)) v33 (regsM ma),dv (rL (rL (rI .i64))) c29.1 (setsI ma),dv (rL (rL (rI .i64))) c29.2 (setsO ma),da rMFunc (vMFunc ma c26) ma],[bx g18 62 [.int .i64 ((ix ((ix ma.Blocks (Int.toNat (ix (((ix ma.Blocks b).End).To) k))).Phis) j).Dst),c113],bx g9 37 [c63a,c63b,.int .i64 (((ix ma.Blocks b).End).Op),.int .i64 (((ix ma.Blocks b).End).A),.int .i64 (((ix ma.Blocks b).End).B),c63c,.int .i32 (((ix ma.Blocks b).End).Imm)],bx g4 28 [.int .i64 ma.Params,c26]],[(4,.pointer (some ⟨g4,0,none⟩)),(5,c29.1),(6,c29.2),(7,v33),(8,.int .i64 (↑b)),(9,.pointer (some ⟨g9,0,none⟩)),(10,v69),(11,.int .i64 (↑i)),(12,.int .i64 (ix (regsM ma) i)),(13,.bool o3),(14,.int .i64 (↑k)),(15,.int .i64 (ix (((ix ma.Blocks b).End).To) k)),(16,.bool (m2 || (decide ((ix ((ix ma.Blocks (Int.toNat (ix (((ix ma.Blocks b).End).To) k))).Phis) j).Dst = ix (regsM ma) i)))),(17,.int .i64 (↑j)),(18,.pointer (some ⟨g18,0,none⟩)),(19,.int .i64 (↑n))],(ix (ix ma.Blocks (Int.toNat (ix (ix ma.Blocks b).End.To k))).Phis j).In.length - n⟩) (0,o2) ⟨by dsimp only; omega,by simp⟩ (dc d0 (dc d3 (dc d4 (dc d5 (dc d6 (dc d7 (dc d8 dn))))))) (kd (kc k0 kn)) ⟨Z,Z,Z,Z,Z,Z,Z,Z,Z,Z,Z,Z,Z,Z,Z,eqI (by omega),trivial⟩ ?_
 rintro ⟨n,o3⟩; dsimp only [u2]; rintro ⟨hn,ho3⟩
 refine jq (jq (jr (jm Z (js (jf F62_1 Z) (js (jl k0 O60 Z Z) (js (jln U60 (rPhi.c_In d0) Z) (js (jlss Z Z) (jn (jx ?_)))))))))
 refine jif Z (fun hc6 => ?_) (fun hc6 => ?_)
 refine jsk (jx (jq (jb (jr (jm Z (jm Z (jg Z Z (.f _) (fun hg => jf F62_1 Z) (jg Z Z (.f _) (fun hg => jl k0 O60 (evg Z hg) Z) (jg Z Z (.f _) (fun hg => jmv Z) (jg Z Z (.f _) (fun hg => jix U60 Z64 (rPhi.c_In d0) (evg Z hg) (evg Z hg) Z (by first | omega | (simp at hg; omega) | (simp only [List.length_set]; omega))) (jg Z Z (.f _) (fun hg => jf F64_0 (evg Z hg)) ?_)))))))))))
 refine jg Z Z (.f _) (fun hg => jlI (rIn.A_From (dix (rPhi.c_In d0) n (by first | omega | (simp at hg; omega) | (simp only [List.length_set]; omega)))) O3 (evg Z hg)) (jg Z Z (.f _) (fun hg => jmv Z) (jg Z Z (.f _) (fun hg => jeql (evg Z hg) (evg Z hg)) (jg Z Z (.f _) (fun hg => jmv (evg Z hg)) (jg Z Z (.gt _ _) (fun hg => jf F62_1 Z) (jg Z Z (.gt _ _) (fun hg => jl k0 O60 (evg Z hg) Z) (jg Z Z (.gt _ _) (fun hg => jmv Z) (jg Z Z (.gt _ _) (fun hg => jix U60 Z64 (rPhi.c_In d0) (evg Z hg) (evg Z hg) Z (by first | omega | (simp at hg; omega) | (simp only [List.length_set]; omega))) (jg Z Z (.gt _ _) (fun hg => jf F64_1 (evg Z hg)) (jg Z Z (.gt _ _) (fun hg => jlI (rIn.A_Val (dix (rPhi.c_In d0) n (by first | omega | (simp at hg; omega) | (simp only [List.length_set]; omega)))) O3 (evg Z hg)) (jg Z Z (.gt _ _) (fun hg => jmv Z) (jg Z Z (.gt _ _) (fun hg => jeql (evg Z hg) (evg Z hg)) ?_)))))))))))
 refine jg Z Z (.f _) (fun hg => jand2 hg Z Z) (js (jor Z Z) (ja Z (jn (jbn (jx (jr (jm Z (js (jadd Z Z (by omega)) (ja Z (jn ?_))))))))))
 exact jag (n + 1,o3 || ((decide ((ix ((ix ((ix ma.Blocks (Int.toNat (ix (((ix ma.Blocks b).End).To) k))).Phis) j).In) n).From = ((b : Nat) : Int))) && (decide ((ix ((ix ((ix ma.Blocks (Int.toNat (ix (((ix ma.Blocks b).End).To) k))).Phis) j).In) n).Val = ix (regsM ma) i)))) ⟨by dsimp only; omega,by dsimp only; rw [any_next (by omega),ho3,Bool.or_assoc]; rfl⟩ (dc d0 (dc d1 (dc d2 (dc d3 (dc d4 (dc d5 (dc d6 dn))))))) (kd (kc k0 kn)) ⟨Z,Z,Z,Z,Z,Z,Z,Z,Z,Z,Z,Z,Z,Z,Z,eqI (by omega),trivial⟩
 refine jex (jtx (jtx (jbh (jbn (jx (jr (jm Z (js (jadd Z Z (by omega)) (ja Z (jn ?_))))))))))
 exact jag (j + 1,o3,m2 || (decide ((ix ((ix ma.Blocks (Int.toNat (ix (((ix ma.Blocks b).End).To) k))).Phis) j).Dst = ix (regsM ma) i))) ⟨by dsimp only; omega,by dsimp only; rw [ho3,List.take_of_length_le (by omega),ho2,phiA_next (by omega),Bool.or_assoc],by dsimp only; rw [hm2,phiD_next (by omega)]⟩ (dc d1 (dc d2 (dc d3 (dc d4 (dc d5 (dc d6 dn)))))) (kc k1 (kc k1 kn)) ⟨Z,Z,Z,Z,Z,Z,Z,Z,Z,Z,Z,Z,Z,eqI (by omega),trivial⟩
 refine jex (jtx (jtx (jbh (jx (jr (jm Z (jm Z (jg Z Z (.f _) (fun hg => jmv Z) (jg Z Z (.f _) (fun hg => jnot (evg Z hg)) (jg Z Z (.f _) (fun hg => jmv (evg Z hg)) (jg Z Z (.gt _ _) (fun hg => jmv Z) ?_)))))))))))
 refine jg Z Z (.gt _ _) (fun hg => jmv Z) (jg Z Z (.gt _ _) (fun hg => jix (i := (Int.toNat (ix (((ix ma.Blocks b).End).To) k))) U52 Z22 d4 (evg Z hg) (evg Z hg) (by first | omega | (simp at hg; omega)) (by first | omega | (simp at hg; omega) | (simp only [List.length_set]; omega))) (jge (q := fun v => dv (rL (rI .i64)) v (ix (setsI ma) (Int.toNat (ix (((ix ma.Blocks b).End).To) k)))) Z Z (.gt _ _) (fun hg => jlV (dix d4 (Int.toNat (ix (((ix ma.Blocks b).End).To) k)) (by first | omega | (simp at hg; omega) | (simp only [List.length_set]; omega))) O22 Z (evg Z hg)) fun v157 => jg Z Z (.gt _ _) (fun hg => jmv Z) (jgc Z Z (.gt _ _) E28 Z (fun hg => evl2 (evg Z hg) (evg Z hg)) (fun hg => (lawIn_ct (ix (regsM ma) i))) (fun hg => (dc (d0.on hg) dn)) kn p0 (jg Z Z (.f _) (fun hg => jand2 hg Z Z) (js (jor Z Z) (ja Z (jn (jbn (jx (jr ?_))))))))))
 refine jm Z (js (jadd Z Z (by omega)) (ja Z (jn ?_)))
 exact jag (k + 1,o2 || ((!m2) && (hasL (ix (setsI ma) (Int.toNat (ix (((ix ma.Blocks b).End).To) k))) (ix (regsM ma) i)))) ⟨by dsimp only; omega,by dsimp only; rw [any_next (by omega),← ho1,ho2,hm2,List.take_of_length_le (by omega),Bool.or_assoc]; rfl⟩ (dc d2 (dc d3 (dc d4 (dc d5 (dc d6 (dc d7 dn)))))) (kd kn) ⟨Z,Z,Z,Z,Z,Z,Z,Z,Z,Z,eqI (by omega),trivial⟩
 refine jex (jtx (jtx (jbh (jx (jq (jr (jm Z (jm Z (jm Z (js (jix U52 Z22 d4 Z Z Z (by omega)) (jev (jlV (dix d4 b (by omega)) O22 Z Z) fun v166 q23 w23 => ?_)))))))))))
 refine jm Z (jcv E28 Z Z (lawIn_ct (ix (regsM ma) i)) (dc d0 dn) kn (js (jneqB U4 Z Z) ?_))
 rw [show (!(o1 == (hasL (ix (setsO ma) b) (ix (regsM ma) i)))) = false from by rw [ho1,List.take_of_length_le (by omega),flow_out hr hbb]; simp]
 refine jm Z (jk Z Z (.f _) (jmv Z) (jk Z Z (.f _) (jmv Z) (jgk Z Z (.f _) (jcv E28 Z Z (lawIn_ct (ix (regsM ma) i)) (dc d1 dn) kn (jk Z Z (.f _) (jmv Z) (jk Z Z (.f _) (jmv Z) (jg Z Z (.f _) (fun hg => jf F37_2 Z) (jg Z Z (.f _) (fun hg => jla k0 A35 Z35 (evg Z hg) Z Z) (jgcd Z Z (.f _) E29 Z (fun hg => evl1 (evg Z hg)) (fun hg => pNeeds_ct) (fun hg => (dc (rMBlock.P_End d2) dn)) fun v178 => jg Z Z (.f _) (fun hg => jmv Z) (jgc Z Z (.f _) E28 Z (fun hg => evl2 (evg Z hg) (evg Z hg)) (fun hg => (lawIn_ct (ix (regsM ma) i))) (fun hg => (dc (d0.on hg) dn)) kn p0 ?_))))))))))
 refine jk Z Z (.f _) (jor Z Z) (jk Z Z (.f _) (jneqB U4 Z Z) (js (jor Z Z) ?_))
 rw [show (false || (!((hasL (atM ma ((b : Nat) : Int) (((List.length ((ix ma.Blocks b).Ins) : Nat) : Int))) (ix (regsM ma) i)) == (o1 || (hasL (nM9 ((ix ma.Blocks b).End)) (ix (regsM ma) i)))))) = false from by rw [atM_nat hr hbb (Nat.le_refl _),at_end hr,ho1,List.take_of_length_le (by omega),flow_out hr hbb]; simp]
 refine jn (jx ?_)
 refine jif Z (fun hc7 => ?_) (fun hc7 => ?_)
 exact absurd hc7 (by simp)
 refine jsk (jbn (jx (jr (jm Z (js (jadd Z Z (by omega)) (ja Z (jn ?_)))))))
 exact jag (i + 1) (by omega) (dc d2 (dc d3 (dc d4 (dc d5 (dc d6 (dc d7 dn)))))) (kd kn) ⟨Z,Z,Z,Z,Z,Z,Z,eqI (by omega),trivial⟩
 refine jex (jtx (jtx (jbh (jx (jq (jq (jr (js (jf F37_1 Z) (js (jl k0 O33 Z Z) (js (jln U33 (rMBlock.cI d1) Z) (js (jsub Z Z (by omega)) ?_)))))))))))
 refine ja Z (jn (jx (jb ?_)))
 refine jlp (u3 fun (p : Nat) (nw : List Int) (vn : Value) => ⟨p ≤ (ix ma.Blocks b).Ins.length ∧ nw = atE ma.Blocks b p,[da rMBlock (vMBlock (ix ma.Blocks b) (c63a,c63b,c63c)) (ix ma.Blocks b),dv (rL (rI .i64)) v33 (regsM ma),dv (rL (rL (rI .i64))) c29.1 (setsI ma),dv (rL (rL (rI .i64))) c29.2 (setsO ma),da rMFunc (vMFunc ma c26) ma,dv (rL (rI .i64)) vn nw],[bx g9 37 [c63a,c63b,.int .i64 (((ix ma.Blocks b).End).Op),.int .i64 (((ix ma.Blocks b).End).A),.int .i64 (((ix ma.Blocks b).End).B),c63c,.int .i32 (((ix ma.Blocks b).End).Imm)],bx g4 28 [.int .i64 ma.Params,c26]],[(4,.pointer (some ⟨g4,0,none⟩)),(5,c29.1),(6,c29.2),(7,v33),(8,.int .i64 (↑b)),(9,.pointer (some ⟨g9,0,none⟩)),(10,vn),(20,.int .i64 ((p : Int) - 1))],p⟩) ((ix ma.Blocks b).Ins.length,atM ma ((b : Nat) : Int) (((List.length ((ix ma.Blocks b).Ins) : Nat) : Int)),v69) ⟨by dsimp only; omega,atM_nat hr hbb (Nat.le_refl _)⟩ (dc d1 (dc d2 (dc d3 (dc d4 (dc d5 (dc d0 dn)))))) (kd kn) ⟨Z,Z,Z,Z,Z,Z,Z,eqI (by omega),trivial⟩ ?_
 rintro ⟨p,nw,vn⟩; dsimp only [u3]; rintro ⟨hp,hnw⟩
 refine cdq d5 fun q27 w27 => jq (jq (jr (jm Z (js (jgeq Z Z) (jn (jx ?_))))))
 refine jif Z (fun hc8 => ?_) (fun hc8 => ?_)
 refine jsk (jx (jq (jb (jq (jr (js (jla k1 A28 Z28 Z Z Z) (jm Z (jm Z (jcd E18 Z Z (at_ct ↑b ((p : Int) - 1)) (dc d4 dn) kn fun v195 q28 w28 => ja Z (jn ?_))))))))))
 refine jx (jq (jq (jr (ja Z (jn (jx (jb ?_)))))))
 have hpp : p - 1 < (ix ma.Blocks b).Ins.length := by omega
 have hat : atM ma b ((p : Int) - 1) = atE ma.Blocks b (p - 1) := by rw [show (p : Int) - 1 = ((p - 1 : Nat) : Int) by omega]; exact atM_nat hr hbb (by omega)
 refine jlp (fun (i7 : Nat) => ⟨i7 ≤ (regsM ma).length,[dv (rL (rI .i64)) v195 (atM ma ↑b ((p : Int) - 1)),da rMBlock (vMBlock (ix ma.Blocks b) (c63a,c63b,c63c)) (ix ma.Blocks b),dv (rL (rI .i64)) v33 (regsM ma),dv (rL (rL (rI .i64))) c29.1 (setsI ma),dv (rL (rL (rI .i64))) c29.2 (setsO ma),da rMFunc (vMFunc ma c26) ma,dv (rL (rI .i64)) vn nw],[bx g9 37 [c63a,c63b,.int .i64 (((ix ma.Blocks b).End).Op),.int .i64 (((ix ma.Blocks b).End).A),.int .i64 (((ix ma.Blocks b).End).B),c63c,.int .i32 (((ix ma.Blocks b).End).Imm)],bx g4 28 [.int .i64 ma.Params,c26]],[(4,.pointer (some ⟨g4,0,none⟩)),(5,c29.1),(6,c29.2),(7,v33),(8,.int .i64 (↑b)),(9,.pointer (some ⟨g9,0,none⟩)),(10,vn),(20,.int .i64 ((p : Int) - 1)),(21,v195),(22,.int .i64 (↑i7))],(regsM ma).length - i7⟩) 0 (by omega) (dc d0 (dc d1 (dc d2 (dc d3 (dc d4 (dc d5 (dc d6 dn))))))) (kd kn) ⟨Z,Z,Z,Z,Z,Z,Z,Z,Z,eqI (by omega),trivial⟩ ?_
 rintro i7; dsimp only; rintro hi7
 refine jq (jq (jr (jm Z (jm Z (js (jln U22 d2 Z) (js (jlss Z Z) (jn (jx ?_))))))))
 refine jif Z (fun hc9 => ?_) (fun hc9 => ?_)
 refine jsk (jx (jq (jb (jq (jr (jm Z (jm Z (js (jix U22 Z3 d2 Z Z Z (by omega)) (js (jlI (dix d2 i7 (by omega)) O3 Z) (ja Z (jn ?_)))))))))))
 refine jx (jq (jany false (.a 0 (.a 1 (.a 3 (.a 4 (.a 5 (.a 6 (.a 7 (.a 9 (.o 2 (.o 8 (.o 10 (.a 11 (.a 12 (.a 13 (.o 14 (.a 15 (.a 16 (.a 17 (.a 18 (.a 19 (.a 20 (.a 22 (.o 21 (.o 23 (.a 24 (.a 25 (.a 26 (.a 27 .e)))))))))))))))))))))))))))) Mixed (by kernel_rfl) (kc k0 kn) fun F30 => jy Z (jmv Z) (jy Z (jmv Z) (jy Z (jf F37_1 Z) (jy Z (jl k0 O33 Z Z) (jy Z (jmv Z) (jy Z (jix (i := (Int.toNat ((p : Int) - 1))) U33 Z69 (rMBlock.cI d1) Z Z (by omega) (by omega)) (jyA sMach Z (xlA (dix (rMBlock.cI d1) (Int.toNat ((p : Int) - 1)) (by omega)) A69 Z69 Z) fun c213 => jy Z (jmv Z) (jyo Z ?_)))))))))
 refine jcv E28 Z Z (lawIn_ct (ix (regsM ma) i7)) (dc d2 dn) kn (jyn d0 (kc k0 kn) (jyo Z (jcd E30 Z Z pTakes_ct (dc d2 dn) kn fun v214 q34 w34 => jyn d1 (kc k0 kn) (jyo Z (jcv E28 Z Z (lawIn_ct (ix (regsM ma) i7)) (dc d1 dn) kn (jyn d0 (kc k0 kn) (jy Z (jmv Z) (jyg Z Z Z (.f _) (fun hg => jmv Z) (jyg Z Z Z (.f _) (fun hg => jmv Z) (jyo Z ?_))))))))))
 refine jgc Z Z (.f _) E28 Z (fun hg => evl2 (evg Z hg) (evg Z hg)) (fun hg => (lawIn_ct (ix (regsM ma) i7))) (fun hg => (dc d12 dn)) kn p0 (jyn d0 (kc k0 kn) (jyg Z Z Z (.f _) (fun hg => jmv (evg Z hg)) (jyg Z Z Z (.gt _ _) (fun hg => jf F37_1 Z) (jyg Z Z Z (.gt _ _) (fun hg => jl k0 O33 (evg Z hg) Z) (jyg Z Z Z (.gt _ _) (fun hg => jmv Z) (jyg Z Z Z (.gt _ _) (fun hg => jix (i := (Int.toNat ((p : Int) - 1))) U33 Z69 (rMBlock.cI d2) (evg Z hg) (evg Z hg) (by first | omega | (simp at hg; omega)) (by first | omega | (simp at hg; omega) | (simp only [List.length_set]; omega))) (jygAx (r := rMach) (val := vMach) sMach Z Z Z (.gt _ _) (fun hg => xlA (dix (rMBlock.cI d2) (Int.toNat ((p : Int) - 1)) (by first | omega | (simp at hg; omega) | (simp only [List.length_set]; omega))) A69 Z69 (evg Z hg)) fun c226 => jyg Z Z Z (.gt _ _) (fun hg => jmv Z) (jyo Z (jgcd Z Z (.gt _ _) E31 Z (fun hg => evl1 (evg Z hg)) (fun hg => pMakes_ct) (fun hg => (dc (d1.on hg) dn)) fun v227 => jyn d1 (kc k0 kn) ?_)))))))))
 refine jyo Z (jgc Z Z (.gt _ _) E28 Z (fun hg => evl2 (evg Z hg) (evg Z hg)) (fun hg => (lawIn_ct (ix (regsM ma) i7))) (fun hg => (dc (d1.on hg) dn)) kn p0 (jyn d0 (kc k0 kn) (jyg Z Z Z (.gt _ _) (fun hg => jnot (evg Z hg)) (jyg Z Z Z (.f _) (fun hg => jand2 hg Z Z) (jy Z (jor Z Z) (jy Z (jneqB U4 Z Z) ?_))))))
 rw [show (!((hasL (atM ma ((b : Nat) : Int) ((p : Int) - 1)) (ix (regsM ma) i7)) == ((hasL (takesM (ix ((ix ma.Blocks b).Ins) (Int.toNat ((p : Int) - 1)))) (ix (regsM ma) i7)) || ((hasL nw (ix (regsM ma) i7)) && (!(hasL (makesM (ix ((ix ma.Blocks b).Ins) (Int.toNat ((p : Int) - 1)))) (ix (regsM ma) i7))))))) = false from by rw [hat,hnw,at_step hpp,show p - 1 + 1 = p by omega]; simp]
 refine jyd (jx ?_)
 refine jif Z (fun hc10 => ?_) (fun hc10 => ?_)
 exact absurd hc10 (by simp)
 refine jsk (jbn (jx (jr (jm Z (js (jadd Z Z (by omega)) (ja Z (jn ?_)))))))
 exact jag (i7 + 1) (by omega) (dc d10 (dc d11 (dc d12 (dc d13 (dc d14 (dc d15 (dc d16 dn))))))) (kd kn) ⟨Z,Z,Z,Z,Z,Z,Z,Z,Z,eqI (by omega),trivial⟩
 refine jex (jtx (jtx (jbh (jx (jr (jm Z (ja Z (jn (jbn (jx (jr ?_)))))))))))
 refine jm Z (js (jsub Z Z (by omega)) (ja Z (jn ?_)))
 exact jag (p - 1,atM ma ((b : Nat) : Int) ((p : Int) - 1),v195) ⟨by dsimp only; omega,hat⟩ (dc d1 (dc d2 (dc d3 (dc d4 (dc d5 (dc d0 dn)))))) (kd kn) ⟨Z,Z,Z,Z,Z,Z,Z,eqI (by omega),trivial⟩
 refine jex (jtx (jtx (jbh (jx (jq (jr (jm Z (jm Z (jm Z (js (jix U52 Z22 d2 Z Z Z (by omega)) (jev (jlV (dix d2 b (by omega)) O22 Z Z) fun v239 q42 w42 => ?_)))))))))))
 refine jcv E17 Z Z row_ct (dc d6 (dc d0 dn)) kn (js (jnot Z) ?_)
 rw [show (!(rowQ nw (ix (setsI ma) b))) = false from by rw [hnw,show p = 0 by omega,setsI_ix hr hbb]; simp [rowQ]]
 refine jn (jx ?_)
 refine jif Z (fun hc11 => ?_) (fun hc11 => ?_)
 exact absurd hc11 (by simp)
 refine jsk (jbn (jx (jr (jm Z (js (jadd Z Z (by omega)) (ja Z (jn ?_)))))))
 exact jag (b + 1) (by omega) (dc d2 (dc d3 (dc d4 (dc d5 dn)))) (kc k1 kn) ⟨Z,Z,Z,Z,eqI (by omega),trivial⟩
 refine jex (jtx (jtx (jbh (jx (jq (jr (ja Z (jn (jx (jrt ?_))))))))))
 exact jrB Z Z (by rfl)
end Go.Proofs.YtehhjlkmbdhckaaGreat
