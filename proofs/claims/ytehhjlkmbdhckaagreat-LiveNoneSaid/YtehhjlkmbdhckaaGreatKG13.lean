/- Lemmas that the claim is made of. Conditions: each lemma names its own. -/
import Derived.Test.YtehhjlkmbdhckaaGreatKG12
import Derived.Test.YtehhjlkmbdhckaaGreatKG10
set_option linter.unusedSectionVars false
set_option linter.unusedSimpArgs false
set_option linter.unusedVariables false
namespace Go.Proofs.YtehhjlkmbdhckaaGreat
open Go.JE
theorem filter_next {l : List Int} {f : Int → Bool} {k : Nat} (h : k < l.length) : (l.take (k + 1)).filter f = (l.take k).filter f ++ if f (ix l k) = true then [ix l k] else [] := by
 rw [take_ix h,List.filter_append]
 congr 1
 by_cases h9 : f (ix l k) = true
 · simp [h9]
 · simp [h9]
theorem tog_fold {α : Type} {f : α → List Int} {a b : Int} : ∀ (l : List (α × Nat)) (s : Bool),l.foldl (fun s x => togS a b s x.2 (f x.1)) s = (s || l.any (fun x => decide (a ∈ f x.1) && decide (b ∈ f x.1)))
 | [],s => by simp
 | x :: l,s => by rw [List.foldl_cons,tog_fold l,List.any_cons,togS,Bool.or_assoc]
theorem any_zipIdx {α : Type} {g : α → Bool} : ∀ (l : List α) (k : Nat),(l.zipIdx k).any (fun x => g x.1) = l.any g
 | [],_ => rfl
 | x :: l,k => by rw [List.zipIdx_cons,List.any_cons,List.any_cons,any_zipIdx l]
theorem togM_any {m : D.MFunc} {a b : Int} (hr : rightM m = true) : togM m a b = (preP m m.Blocks.length 0).any (fun x => decide (a ∈ hasE m x.1 x.2) && decide (b ∈ hasE m x.1 x.2)) := by
 unfold togM stM
 rw [if_pos hr,tog_fold (f := fun x : Nat × Nat => hasE m x.1 x.2),Bool.false_or]
 exact any_zipIdx (g := fun x : Nat × Nat => decide (a ∈ hasE m x.1 x.2) && decide (b ∈ hasE m x.1 x.2)) _ 0
structure GR (m : D.MFunc) (b i : Nat) (f : Nat → Int → Bool) (rs : List (List Int)) : Prop where
 n : rs.length = m.Blocks.length
 s : ∀ j,j < m.Blocks.length → ix rs j = ((regsM m).take (if j < b then i + 1 else i)).filter (f j)
theorem GR.beg {m : D.MFunc} {f : Nat → Int → Bool} : GR m 0 0 f (List.replicate m.Blocks.length []) := ⟨by simp,fun j hj => by rw [ix_eq (by simpa using hj)]; simp⟩
theorem GR.blk {m : D.MFunc} {b i : Nat} {f : Nat → Int → Bool} {rs : List (List Int)} (h : GR m b i f rs) (hb : m.Blocks.length ≤ b) : GR m 0 (i + 1) f rs := ⟨h.n,fun j hj => by rw [h.s j hj,if_pos (by omega),if_neg (by omega)]⟩
theorem GR.no {m : D.MFunc} {b i : Nat} {f : Nat → Int → Bool} {rs : List (List Int)} (h : GR m b i f rs) (hi : i < (regsM m).length) (hf : f b (ix (regsM m) i) = false) : GR m (b + 1) i f rs := ⟨h.n,fun j hj => by
 rw [h.s j hj]
 by_cases h9 : j < b
 · rw [if_pos h9,if_pos (by omega)]
 · rw [if_neg h9]
   split
   · have e : j = b := by omega
     subst e
     rw [filter_next hi,hf]; simp
   · rfl⟩
theorem GR.len {m : D.MFunc} {b i : Nat} {f : Nat → Int → Bool} {rs : List (List Int)} (h : GR m b i f rs) : ∀ l ∈ rs,l.length < 1073741824 := mem_ix fun k hk => by
 rw [h.s k (by rw [← h.n]; exact hk)]
 have h1 := List.length_filter_le (f k) ((regsM m).take (if k < b then i + 1 else i))
 have h2 := regs_len (m := m)
 rw [List.length_take] at h1; omega
theorem E20 : Ent Tryz.prog 20 := ⟨_,Tryz.func20,by kernel_rfl,by kernel_rfl⟩
set_option maxRecDepth 4000
end Go.Proofs.YtehhjlkmbdhckaaGreat
namespace Go.Proofs.YtehhjlkmbdhckaaGreat
open Go.JE
set_option maxRecDepth 4000
end Go.Proofs.YtehhjlkmbdhckaaGreat
namespace Go.Proofs.YtehhjlkmbdhckaaGreat
open Go.JE
set_option maxRecDepth 4000
theorem GR.one {m : D.MFunc} {b i c : Nat} {f : Nat → Int → Bool} {rs : List (List Int)} (h : GR m b i f rs) (hc : c < m.Blocks.length) : (rs.getD c []).length ≤ 8192 := by
 have h3 := h.s c hc
 have h1 := List.length_filter_le (f c) ((regsM m).take (if c < b then i + 1 else i))
 have h2 := regs_len (m := m)
 rw [List.length_take] at h1
 have h4 : (ix rs c).length ≤ 8192 := by rw [h3]; omega
 exact h4
end Go.Proofs.YtehhjlkmbdhckaaGreat
namespace Go.Proofs.YtehhjlkmbdhckaaGreat
open Go.JE
def shL : D.MFunc := ⟨2,[⟨[],[⟨5,2,0,0,1,0,0,[]⟩,⟨5,3,0,2,0,0,0,[]⟩],⟨7,3,0,[],0⟩⟩]⟩
theorem shL_right : rightM shL = true := by decide
theorem shL_lo : loE shL.Blocks = [[]] := by
 have hw := right_wl shL_right
 have h1 : (loE shL.Blocks).length = 1 := loE_len hw
 have h2 : ix (loE shL.Blocks) 0 = [] := by
   apply List.eq_nil_iff_forall_not_mem.2
   intro r hr
   have h3 := (loE_mem hw (b := 0) (by decide)).1 hr
   cases h3 with
   | phi h _ => cases h
   | gen h _ _ => cases h
   | thru h _ _ _ => cases h
 match hl : loE shL.Blocks,h1,h2 with
 | [x],_,h2 =>
   have h4 : x = [] := h2
   rw [h4]
theorem shL_at : atM shL 0 1 = [0,2] := by
 unfold atM atE; rw [shL_lo]; decide
theorem shL_row : rowQ (atM shL 0 1) [0,2] = true := by rw [shL_at]; decide
theorem shL_tog1 : togM shL 0 2 = true := by
 unfold togM stM togS hasE atE; rw [shL_lo]; decide
theorem shL_tog2 : togM shL 0 3 = false := by
 unfold togM stM togS hasE atE; rw [shL_lo]; decide
theorem shL_most : mostM shL = 2 := by
 unfold mostM stM mostS hasE atE; rw [shL_lo]; decide
def rangesQ (a b : List D.Range) : Bool := decide (a = b)
theorem shL_rng : rangesQ (rangesM shL 0) [⟨0,2⟩] = true := by
 unfold rangesM stM rngS hasE atE; rw [shL_lo]; decide
theorem rng_ix {a b : List D.Range} (hl : a.length = b.length) (h : ∀ j,j < a.length → ix a j = ix b j) : a = b := List.ext_getElem hl fun j h1 h2 => by
 have := h j h1; rw [ix_eq h1,ix_eq h2] at this; exact this
theorem rng_ext {x y : D.Range} (h : x.From = y.From ∧ x.To = y.To) : x = y := by
 cases x; cases y; obtain ⟨h1,h2⟩ := h; dsimp only at h1 h2; subst h1; subst h2; rfl
def made10 (s : List Int) : D.MFunc := made7 (s.take 200)
theorem A47 : ∃ d,Tryz.prog.underlying 47 = some d ∧ (match d with | .struct _ | .array _ _ => true | _ => false) = true := ⟨_,Tryz.underlying47,rfl⟩
theorem E18 : Ent Tryz.prog 18 := ⟨_,Tryz.func18,by kernel_rfl,by kernel_rfl⟩
theorem E21 : Ent Tryz.prog 21 := ⟨_,Tryz.func21,by kernel_rfl,by kernel_rfl⟩
theorem E22 : Ent Tryz.prog 22 := ⟨_,Tryz.func22,by kernel_rfl,by kernel_rfl⟩
theorem E24 : Ent Tryz.prog 24 := ⟨_,Tryz.func24,by kernel_rfl,by kernel_rfl⟩
theorem E36 : Ent Tryz.prog 36 := ⟨_,Tryz.func36,by kernel_rfl,by kernel_rfl⟩
theorem E37 : Ent Tryz.prog 37 := ⟨_,Tryz.func37,by kernel_rfl,by kernel_rfl⟩
theorem S2_47 : St2 Tryz.prog 47 .i64 := ⟨⟨_,_,Tryz.underlying47,by decide,by decide,rfl,rfl,Tryz.underlying3,Tryz.underlying3⟩,by kernel_rfl,by kernel_rfl⟩
set_option maxRecDepth 8000
theorem lawRanges_ct {a0 : Value} {a : List D.Range} {a1 : Value} {b : List D.Range} : Tv Tryz.prog 36 #[a0,a1] [dv (rL rRange) a0 a,dv (rL rRange) a1 b] [] (.bool (rangesQ a b)) := by
 refine jenter (args := [a0,a1]) Tryz.func36 rfl rfl rfl fun w0 X => ?_
 refine jq (jr (ja Z (jn (jx (jq (jq (jr (jm Z (jdq d0 fun q1 w1 => js (jln U44 d0 Z) (jm Z ?_))))))))))
 refine jdq d1 fun q2 w2 => js (jln U44 d1 Z) (js (jneq Z Z) (jn (jx ?_)))
 refine jif Z (fun hc1 => ?_) (fun hc1 => ?_)
 refine jq (jr (ja Z (jn (jx (jrt (jtr ?_))))))
 exact jrB Z Z (by first | (exact decide_eq_true (rng_ix (by omega) (fun j hj => hall j (by omega)))) | (exact decide_eq_false (fun h9 => by subst h9; simp at hc3)) | (exact decide_eq_false (fun h9 => by subst h9; exact hc1 rfl)))
 refine jsk (jx (jq (jq (jr (ja Z (jn (jx (jb ?_))))))))
 refine jlp (fun (k : Nat) => ⟨k ≤ a.length ∧ ∀ j,j < k → ix a j = ix b j,[dv (rL rRange) a0 a,dv (rL rRange) a1 b],[],[(0,a0),(1,a1),(5,.int .i64 (↑k))],a.length - k⟩) 0 ⟨by omega,fun j hj => by omega⟩ (dc d0 (dc d1 dn)) kn ⟨Z,Z,eqI (by omega),trivial⟩ ?_
 rintro k; dsimp only; rintro ⟨hk,hall⟩
 refine jq (jq (jr (jm Z (jm Z (js (jln U44 d0 Z) (js (jlss Z Z) (jn (jx ?_))))))))
 refine jif Z (fun hc2 => ?_) (fun hc2 => ?_)
 refine jsk (jx (jq (jb (jq (jstl Mixed (by kernel_rfl) (jt (jmv Z) (jt (jmv Z) (jt (jix U44 Z47 d0 Z Z Z (by omega)) (jtA sRange (jlA (dix d0 k (by omega)) A47 Z47 Z) fun _ => jt (jmv Z) (jt (jmv Z) ?_))))))))))
 refine jt (jix U44 Z47 d2 Z Z Z (by omega)) (jtA sRange (jlA (dix d2 k (by omega)) A47 Z47 Z) fun _ => jt (jneqSt S2_47 Z Z) (jdn (jx ?_)))
 refine jif Z (fun hc3 => ?_) (fun hc3 => ?_)
 refine jq (jr (ja Z (jn (jx (jrt (jbr (jtr (jtr (jbr (jtr ?_))))))))))
 exact jrB Z Z (by first | (exact decide_eq_true (rng_ix (by omega) (fun j hj => hall j (by omega)))) | (exact decide_eq_false (fun h9 => by subst h9; simp at hc3)) | (exact decide_eq_false (fun h9 => by subst h9; exact hc1 rfl)))
 refine jsk (jbn (jx (jr (jm Z (js (jadd Z Z (by omega)) (ja Z (jn ?_)))))))
 exact jag (k + 1) ⟨by omega,fun j hj => by rcases Nat.lt_or_ge j k with h7 | h7; (exact hall j h7); (rw [show j = k by omega]; exact rng_ext (by simpa using hc3))⟩ (dc d2 (dc d3 dn)) kn ⟨Z,Z,eqI (by omega),trivial⟩
 refine jex (jtx (jtx (jbh (jx (jq (jr (ja Z (jn (jx (jrt ?_))))))))))
 exact jrB Z Z (by first | (exact decide_eq_true (rng_ix (by omega) (fun j hj => hall j (by omega)))) | (exact decide_eq_false (fun h9 => by subst h9; simp at hc3)) | (exact decide_eq_false (fun h9 => by subst h9; exact hc1 rfl)))
theorem shown_ct  : Tv Tryz.prog 11 #[] [] [] (.bool true) := by
 refine jenter (args := []) Tryz.func11 rfl rfl rfl fun w0 X => ?_
 refine jq (jr (ja Z (jn (jx (jq (jr (js (jbu (v := .agg #[.int .i64 5,.int .i64 2,.int .i64 0,.int .i64 0,.int .i64 1,.int .i64 0,.int .i32 0,.slice none 0 0]) Z (fun _ => by kernel_rfl)) (js (jbu (v := .agg #[.int .i64 5,.int .i64 3,.int .i64 0,.int .i64 2,.int .i64 0,.int .i64 0,.int .i32 0,.slice none 0 0]) Z (fun _ => by kernel_rfl)) (jlit (r := rMach) (l := [⟨5,2,0,0,1,0,0,[]⟩,⟨5,3,0,2,0,0,0,[]⟩]) U33 I69 (by decide) Z Z Z (lA (rMach.M (m := ⟨5,2,0,0,1,0,0,[]⟩) (c := (.slice none 0 0)) wN (wl 5) (wl 2) (wl 0) (wl 0) (wl 1) (wl 0) (wl 0)) (lA (rMach.M (m := ⟨5,3,0,2,0,0,0,[]⟩) (c := (.slice none 0 0)) wN (wl 5) (wl 3) (wl 0) (wl 2) (wl 0) (wl 0) (wl 0)) ln)) fun g4 => js (jbu (v := .agg #[.int .i64 7,.int .i64 3,.int .i64 0,.slice none 0 0,.int .i32 0]) Z (fun _ => by kernel_rfl)) (js (jbu (v := .agg #[.slice none 0 0,(.slice (some ⟨g4,0,none⟩) 2 2),.int .i64 7,.int .i64 3,.int .i64 0,.slice none 0 0,.int .i32 0]) Z (fun _ => by kernel_rfl)) ?_))))))))))
 refine jfz k0 (by (try simp) <;> omega) (jlit (r := rMBlock) (l := [⟨[],[⟨5,2,0,0,1,0,0,[]⟩,⟨5,3,0,2,0,0,0,[]⟩],⟨7,3,0,[],0⟩⟩]) U26 I37 (by decide) Z Z Z (lA (rMBlock.M (m := ⟨[],[⟨5,2,0,0,1,0,0,[]⟩,⟨5,3,0,2,0,0,0,[]⟩],⟨7,3,0,[],0⟩⟩) (c := (.slice none 0 0,(.slice (some ⟨g4,0,none⟩) 2 2),.slice none 0 0)) wN d0 wN (wl 7) (wl 3) (wl 0) (wl 0)) ln) fun g7 => js (jbu (v := .agg #[.int .i64 2,(.slice (some ⟨g7,0,none⟩) 1 1)]) Z (fun _ => by kernel_rfl)) (jalc J28 Z fun g1 => jsta k0 Z28 Z Z Z ⟨Z,Z,trivial⟩ (saf Z) (jn (jx (jq (jr (js (jla k0 A28 Z28 Z Z Z) (jfz k1 (by (try simp) <;> omega) (jcd E18 Z Z (at_ct (m := ⟨2,[⟨[],[⟨5,2,0,0,1,0,0,[]⟩,⟨5,3,0,2,0,0,0,[]⟩],⟨7,3,0,[],0⟩⟩]⟩) 0 1) (dc (rMFunc.M (m := ⟨2,[⟨[],[⟨5,2,0,0,1,0,0,[]⟩,⟨5,3,0,2,0,0,0,[]⟩],⟨7,3,0,[],0⟩⟩]⟩) (c := (.slice (some ⟨g7,0,none⟩) 1 1)) d0 (wl 2)) dn) kn fun v10 q3 w3 => ?_)))))))))
 refine jlit (r := (rI .i64)) (l := [0,2]) U22 I3 (by decide) Z Z Z (lV Z Z (wI (wl 0)) (lV Z Z (wI (wl 2)) ln)) fun g11 => jc E17 Z Z (Tv.temp1 1073741824 row_ct (by (try simp) <;> omega)) (dc d0 dn) (kc k0 kn) (fun _ => p0) (fun _ => p1) fun _ => ?_
 rw [show rowQ (atM (⟨2,[⟨[],[⟨5,2,0,0,1,0,0,[]⟩,⟨5,3,0,2,0,0,0,[]⟩],⟨7,3,0,[],0⟩⟩]⟩) 0 1) ([0,2]) = true from shL_row]
 refine jm Z (jk Z Z (.t _) (jla k1 A28 Z28 Z Z Z) (jgk Z Z (.t _) (jcd E21 Z Z (ranges_ct (m := ⟨2,[⟨[],[⟨5,2,0,0,1,0,0,[]⟩,⟨5,3,0,2,0,0,0,[]⟩],⟨7,3,0,[],0⟩⟩]⟩) 0) (dc (rMFunc.M (m := ⟨2,[⟨[],[⟨5,2,0,0,1,0,0,[]⟩,⟨5,3,0,2,0,0,0,[]⟩],⟨7,3,0,[],0⟩⟩]⟩) (c := (.slice (some ⟨g7,0,none⟩) 1 1)) d1 (wl 2)) dn) kn fun v15 q5 w5 => jk Z Z (.t _) (jbu (v := .agg #[.int .i64 0,.int .i64 2]) Z (fun _ => by kernel_rfl)) (jgk Z Z (.t _) (jlit (r := rRange) (l := [⟨0,2⟩]) U44 I47 (by decide) Z Z Z (lA (rRange.M (m := ⟨0,2⟩) (c := ()) (wl 0) (wl 2)) ln) fun g17 => jgk Z Z (.t _) (jc E36 Z Z (Tv.temp1 1073741824 lawRanges_ct (by (try simp) <;> omega)) (dc d0 dn) (kc k0 kn) (fun _ => p0) (fun _ => p1) fun _ => ?_))))))
 rw [show rangesQ (rangesM (⟨2,[⟨[],[⟨5,2,0,0,1,0,0,[]⟩,⟨5,3,0,2,0,0,0,[]⟩],⟨7,3,0,[],0⟩⟩]⟩) 0) ([⟨0,2⟩]) = true from shL_rng]
 refine js (jand Z Z) (jm Z (jk Z Z (.t _) (jla k2 A28 Z28 Z Z Z) (jgk Z Z (.t _) (jcv E22 Z Z (together_ct (m := ⟨2,[⟨[],[⟨5,2,0,0,1,0,0,[]⟩,⟨5,3,0,2,0,0,0,[]⟩],⟨7,3,0,[],0⟩⟩]⟩) 0 2) (dc (rMFunc.M (m := ⟨2,[⟨[],[⟨5,2,0,0,1,0,0,[]⟩,⟨5,3,0,2,0,0,0,[]⟩],⟨7,3,0,[],0⟩⟩]⟩) (c := (.slice (some ⟨g7,0,none⟩) 1 1)) d2 (wl 2)) dn) kn ?_))))
 rw [show togM (⟨2,[⟨[],[⟨5,2,0,0,1,0,0,[]⟩,⟨5,3,0,2,0,0,0,[]⟩],⟨7,3,0,[],0⟩⟩]⟩) 0 2 = true from shL_tog1]
 refine js (jand Z Z) (jm Z (jk Z Z (.t _) (jla k2 A28 Z28 Z Z Z) (jgk Z Z (.t _) (jcv E22 Z Z (together_ct (m := ⟨2,[⟨[],[⟨5,2,0,0,1,0,0,[]⟩,⟨5,3,0,2,0,0,0,[]⟩],⟨7,3,0,[],0⟩⟩]⟩) 0 3) (dc (rMFunc.M (m := ⟨2,[⟨[],[⟨5,2,0,0,1,0,0,[]⟩,⟨5,3,0,2,0,0,0,[]⟩],⟨7,3,0,[],0⟩⟩]⟩) (c := (.slice (some ⟨g7,0,none⟩) 1 1)) d2 (wl 2)) dn) kn ?_))))
 rw [show togM (⟨2,[⟨[],[⟨5,2,0,0,1,0,0,[]⟩,⟨5,3,0,2,0,0,0,[]⟩],⟨7,3,0,[],0⟩⟩]⟩) 0 3 = false from shL_tog2]
 refine jk Z Z (.t _) (jnot Z) (js (jand Z Z) (jm Z (jk Z Z (.t _) (jla k2 A28 Z28 Z Z Z) (jgk Z Z (.t _) (jcv E24 Z Z (most_ct (m := ⟨2,[⟨[],[⟨5,2,0,0,1,0,0,[]⟩,⟨5,3,0,2,0,0,0,[]⟩],⟨7,3,0,[],0⟩⟩]⟩)) (dc (rMFunc.M (m := ⟨2,[⟨[],[⟨5,2,0,0,1,0,0,[]⟩,⟨5,3,0,2,0,0,0,[]⟩],⟨7,3,0,[],0⟩⟩]⟩) (c := (.slice (some ⟨g7,0,none⟩) 1 1)) d2 (wl 2)) dn) kn ?_)))))
 rw [show mostM (⟨2,[⟨[],[⟨5,2,0,0,1,0,0,[]⟩,⟨5,3,0,2,0,0,0,[]⟩],⟨7,3,0,[],0⟩⟩]⟩) = 2 from shL_most]
 refine jk Z Z (.t _) (jeql Z Z) (js (jand Z Z) (ja Z (jn (jx (jrt ?_)))))
 exact jrB Z Z (by first | rfl | decide)
theorem made10_ct {a0 : Value} {s : List Int} {N0 : Nat} : Ts Tryz.prog 12 #[a0] [dv (rLn N0 (rI .i64)) a0 s] [] rMFunc vMFunc (made10 s) := by
 refine jenter (args := [a0]) Tryz.func12 rfl rfl rfl fun w0 X => ?_
 refine jq (jr (jalc J28 Z fun g2 => jn (jx (jq (jr (jm Z (jm Z (jdq d0 fun q1 w1 => js (jln U22 d0 Z) (js (jmin Z Z) ?_)))))))))
 refine js (jshi (hi := (Int.toNat (min (↑(List.length s)) 200))) U22 Z3 d0 Z Z (by omega) (by omega)) (jdq (dhi d0 (Int.toNat (min (↑(List.length s)) 200)) (by omega) (by omega)) fun q2 w2 => jcs E37 Z Z r7made_ct (dc (dhi d0 (Int.toNat (min (↑(List.length s)) 200)) (by omega) (by omega)) dn) kn fun c8 => jdq (rMFunc.cB d0) fun q4 w4 => jsta k0 Z28 Z Z Z ⟨Z,w4.one,trivial⟩ (saf Z) (jn (jx (jrt ?_))))
 exact jrcA (val := vMFunc) (b := made7 (List.take (Int.toNat (min (↑(List.length s)) 200)) s)) (c := c8) Z Z k0 A28 Z28 Z (by rw [← take_min s 200 200 rfl]; rfl) d0
end Go.Proofs.YtehhjlkmbdhckaaGreat
namespace Go.Proofs.YtehhjlkmbdhckaaGreat
open Go.JE
def prvT (l : List D.Range) (i : Nat) : Int := if i = 0 then -1 else (ix l (i - 1)).To
structure RS (l : List D.Range) (n : Int) : Prop where
 s : ∀ i,i < l.length → prvT l i < (ix l i).From ∧ (ix l i).From < (ix l i).To ∧ (ix l i).To ≤ n
theorem RS.step {r : Int} {l : List D.Range} {n : Nat} {S : List Int} (h : RS l n) : RS (rngS r l n S) ((n : Int) + 1) := by
 unfold rngS
 split
 · split
   · rename_i h2
     refine ⟨fun i hi => ?_⟩
     rw [List.length_set] at hi
     have h3 := h.s i hi
     have e : ∀ j,j < l.length → ix (l.set (l.length - 1) { ix l (l.length - 1) with To := (n : Int) + 1 }) j = if j = l.length - 1 then { ix l (l.length - 1) with To := (n : Int) + 1 } else ix l j := fun j hj => by
       rw [ix_set (by omega)]
     have e1 : prvT (l.set (l.length - 1) { ix l (l.length - 1) with To := (n : Int) + 1 }) i = prvT l i := by
       unfold prvT
       by_cases h0 : i = 0
       · rw [if_pos h0,if_pos h0]
       · rw [if_neg h0,if_neg h0,e (i - 1) (by omega),if_neg (by omega)]
     rw [e1,e i hi]
     by_cases h0 : i = l.length - 1
     · rw [if_pos h0]; subst h0; dsimp only; have := h2.2; omega
     · rw [if_neg h0]; omega
   · rename_i h2
     refine ⟨fun i hi => ?_⟩
     simp only [List.length_append,List.length_cons,List.length_nil] at hi
     have e : ∀ j,j < l.length → ix (l ++ [⟨(n : Int),(n : Int) + 1⟩]) j = ix l j := fun j hj => by
       rw [ix_eq (by simp; omega),ix_eq hj,List.getElem_append_left]
     by_cases h0 : i < l.length
     · have h3 := h.s i h0
       have e1 : prvT (l ++ [⟨(n : Int),(n : Int) + 1⟩]) i = prvT l i := by
         unfold prvT
         by_cases h0 : i = 0
         · rw [if_pos h0,if_pos h0]
         · rw [if_neg h0,if_neg h0,e (i - 1) (by omega)]
       rw [e1,e i h0]; omega
     · have h4 : i = l.length := by omega
       have e2 : ix (l ++ [(⟨(n : Int),(n : Int) + 1⟩ : D.Range)]) i = ⟨(n : Int),(n : Int) + 1⟩ := by
         rw [ix_eq (by simp; omega)]; simp [h4]
       rw [e2]
       have e1 : prvT (l ++ [⟨(n : Int),(n : Int) + 1⟩]) i < n := by
         unfold prvT
         by_cases h5 : i = 0
         · rw [if_pos h5]; omega
         · rw [if_neg h5,e (i - 1) (by omega)]
           have h6 := h.s (i - 1) (by omega)
           have h7 : ¬ (ix l (i - 1)).To = n := fun h8 => h2 ⟨by omega,by rw [← h4]; exact h8⟩
           omega
       dsimp only; omega
 · exact ⟨fun i hi => by have := h.s i hi; omega⟩
def rgX (x : D.Range) (n : Int) : Bool := decide (x.From ≤ n) && decide (n < x.To)
def rgS (l : List D.Range) (n : Int) : Bool := l.any (fun x => rgX x n)
theorem inS_iff {l : List D.Range} {n : Int} : rgS l n = true ↔ ∃ j,j < l.length ∧ (ix l j).From ≤ n ∧ n < (ix l j).To := by
 unfold rgS rgX
 rw [List.any_eq_true]
 constructor
 · rintro ⟨x,hx,h⟩
   obtain ⟨j,hj,e⟩ := List.getElem_of_mem hx
   refine ⟨j,hj,?_⟩
   rw [ix_eq hj,e]; simpa using h
 · rintro ⟨j,hj,h⟩
   exact ⟨_,ix_mem hj,by simpa using h⟩
theorem RS.above {l : List D.Range} {k n : Int} (h : RS l k) (hn : k ≤ n) : rgS l n = false := by
 cases h9 : rgS l n with
 | false => rfl
 | true =>
   obtain ⟨j,hj,h1,h2⟩ := inS_iff.1 h9
   have := h.s j hj; omega
theorem RS.put {r : Int} {l : List D.Range} {k : Nat} {S : List Int} (h : RS l k) {n : Int} : rgS (rngS r l k S) n = if n = k then decide (r ∈ S) else rgS l n := by
 have h0 := h.above (n := k) (Int.le_refl _)
 unfold rngS
 by_cases hr : r ∈ S
 · rw [if_pos hr]
   split
   · rename_i h2
     have hl : l.length - 1 < l.length := by omega
     have hlast := h.s (l.length - 1) hl
     rw [Bool.eq_iff_iff,inS_iff]
     have e : ∀ j,j < l.length → ix (l.set (l.length - 1) { ix l (l.length - 1) with To := (k : Int) + 1 }) j = if j = l.length - 1 then { ix l (l.length - 1) with To := (k : Int) + 1 } else ix l j := fun j hj => by rw [ix_set (by omega)]
     rw [List.length_set]
     by_cases hn : n = k
     · rw [if_pos hn,decide_eq_true_eq]
       refine ⟨fun _ => hr,fun _ => ⟨l.length - 1,hl,?_⟩⟩
       rw [e _ hl,if_pos rfl]; dsimp only; omega
     · rw [if_neg hn,inS_iff]
       constructor
       · rintro ⟨j,hj,h3⟩
         rw [e j hj] at h3
         split at h3
         · rename_i h4; subst h4; dsimp only at h3; exact ⟨_,hl,by omega,by omega⟩
         · exact ⟨j,hj,h3⟩
       · rintro ⟨j,hj,h3⟩
         refine ⟨j,hj,?_⟩
         rw [e j hj]
         split
         · rename_i h4; subst h4; dsimp only; omega
         · exact h3
   · rw [Bool.eq_iff_iff]
     unfold rgS
     rw [List.any_append,Bool.or_eq_true]
     by_cases hn : n = k
     · rw [if_pos hn,decide_eq_true_eq]
       exact ⟨fun _ => hr,fun _ => .inr (by subst hn; simp [rgX]; omega)⟩
     · rw [if_neg hn]
       constructor
       · rintro (h3 | h3)
         · exact h3
         · simp [rgX] at h3; omega
       · exact .inl
 · rw [if_neg hr]
   by_cases hn : n = k
   · rw [if_pos hn,hn,h0,decide_eq_false hr]
   · rw [if_neg hn]
theorem has_regs {m : D.MFunc} (hr : rightM m = true) {b p : Nat} (hb : b < m.Blocks.length) (hp : p ≤ (ix m.Blocks b).Ins.length) {r : Int} (h : r ∈ hasE m b p) : r ∈ regA m := by
 have hw := right_wl hr
 have hd : ∀ y ∈ dsts (ix m.Blocks b),y ∈ regA m := fun y hy => by
   obtain ⟨q,hq,e⟩ := List.mem_map.1 hy
   exact regB_A hb (List.mem_append.2 (.inl (List.mem_append.2 (.inr (List.mem_flatMap.2 ⟨q,hq,List.mem_cons.2 (.inl e.symm)⟩)))))
 unfold hasE at h
 split at h
 · rw [uniS_mem] at h
   rcases h with h | h
   · exact at_regs hw hb h
   · exact regB_A hb (List.mem_append.2 (.inr (List.mem_flatMap.2 ⟨_,ix_mem (by omega),List.mem_append.2 (.inr h)⟩)))
 split at h
 · rw [uniS_mem,uniS_mem] at h
   rcases h with (h | h) | h
   · exact at_regs hw hb h
   · exact hd r h
   · exact List.mem_append.2 (.inl h)
 · rw [uniS_mem] at h
   rcases h with h | h
   · exact at_regs hw hb h
   · exact hd r h
theorem preP_in {m : D.MFunc} : ∀ x ∈ preP m m.Blocks.length 0,x.1 < m.Blocks.length ∧ x.2 ≤ (ix m.Blocks x.1).Ins.length := fun x hx => by
 unfold preP at hx
 simp only [List.range_zero,List.map_nil,List.append_nil,List.mem_flatMap,List.mem_map,List.mem_range] at hx
 obtain ⟨b,hb,p,hp,rfl⟩ := hx
 exact ⟨hb,by dsimp only; omega⟩
theorem RS.once {n : Int} : ∀ {l : List D.Range} {k : Int},RS l k → l.countP (fun x => rgX x n) = if rgS l n = true then 1 else 0 := by
 intro l
 have gen : ∀ (l : List D.Range) (lo : Int),(∀ i,i < l.length → (if i = 0 then lo else (ix l (i - 1)).To) < (ix l i).From ∧ (ix l i).From < (ix l i).To) → (n ≤ lo → l.countP (fun x => rgX x n) = 0) ∧ l.countP (fun x => rgX x n) = if rgS l n = true then 1 else 0 := by
   intro l
   induction l with
   | nil => intro lo h; exact ⟨fun _ => rfl,rfl⟩
   | cons x l ih =>
     intro lo h
     have h0 := h 0 (by simp)
     rw [if_pos rfl] at h0
     have h0' : lo < x.From ∧ x.From < x.To := h0
     obtain ⟨i1,i2⟩ := ih x.To (fun i hi => by
       have h1 := h (i + 1) (by simpa using hi)
       rw [if_neg (by omega)] at h1
       have e1 : ix (x :: l) (i + 1) = ix l i := by simp [ix]
       rw [e1,Nat.add_sub_cancel] at h1
       by_cases h9 : i = 0
       · subst h9; rw [if_pos rfl]; exact h1
       · rw [if_neg h9]
         have e2 : ix (x :: l) i = ix l (i - 1) := by
           obtain ⟨j,rfl⟩ : ∃ j,i = j + 1 := ⟨i - 1,by omega⟩
           simp [ix]
         rw [e2] at h1; exact h1)
     have ex : rgX x n = true ↔ x.From ≤ n ∧ n < x.To := by unfold rgX; simp
     rw [List.countP_cons]
     have es : rgS (x :: l) n = (rgX x n || rgS l n) := by unfold rgS; rw [List.any_cons]
     rw [es]
     by_cases hx : rgX x n = true
     · have h2 := ex.1 hx
       rw [i1 (by omega),if_pos hx,hx]
       exact ⟨fun h3 => by omega,by simp⟩
     · rw [if_neg hx,show rgX x n = false from by simpa using hx,Bool.false_or]
       exact ⟨fun h3 => by rw [i1 (by omega)],by rw [i2]; simp⟩
 intro k h
 exact (gen l (-1) (fun i hi => by have h1 := h.s i hi; unfold prvT at h1; exact ⟨h1.1,h1.2.1⟩)).2
theorem setsI_ix {m : D.MFunc} (hr : rightM m = true) {b : Nat} (hb : b < m.Blocks.length) : ix (setsI m) b = atE m.Blocks b 0 := by
 unfold setsI; rw [if_pos hr,ix_eq (by simpa using hb)]; simp
theorem setsI_len {m : D.MFunc} (hr : rightM m = true) : (setsI m).length = m.Blocks.length := by
 unfold setsI; rw [if_pos hr]; simp
inductive RA (to : List (List Int)) (n w : Nat) : Nat → Prop
 | zero : w ≠ 0 → RA to n w 0
 | step {x : Nat} {t : Int} : RA to n w x → t ∈ ix to x → 1 ≤ t → t < n → t ≠ w → RA to n w t.toNat
theorem RA.nz {to : List (List Int)} {n w x : Nat} (h : RA to n w x) : w ≠ 0 := by
 induction h with
 | zero h => exact h
 | step _ _ _ _ _ ih => exact ih
theorem ra_lt {to : List (List Int)} {n w x : Nat} (hn : 0 < n) (h : RA to n w x) : x < n := by
 induction h with
 | zero h => exact hn
 | step _ _ _ _ _ _ => omega
theorem ra_reach {to : List (List Int)} {f : D.Func} {n w x : Nat} (hl : f.Blocks.length = n) (hn : 0 < n) (ht : ∀ j,j < n → (ix f.Blocks j).Term.To = ix to j) (h : RA to n w x) : ix (reach3 f (w : Int)) x = true := by
 have hw := h.nz
 obtain ⟨h0,hc⟩ := reach3_cl (f := f) (w := (w : Int)) (by omega) (by omega)
 induction h with
 | zero h => exact h0
 | @step y t h1 h2 h3 h4 h5 ih => exact hc _ ih t (by rw [ht _ (ra_lt hn h1)]; exact h2) (by omega) (by omega) h5
def mkB (x : D.Block) : List Int := x.Phis.map (fun p => p.Dst) ++ x.Ins.flatMap makes3
def Vs (n : Nat) (to : List (List Int)) (par : Int) (bs : List D.Block) (b : Nat) (r : Int) : Prop := (0 ≤ r ∧ r < par) ∨ ∃ a,a < n ∧ (a = b ∨ ¬ RA to n a b) ∧ r ∈ mkB (ix bs a)
def Vo (n : Nat) (to : List (List Int)) (par : Int) (bs : List D.Block) (b : Nat) (r : Int) : Prop := (0 ≤ r ∧ r < par) ∨ ∃ a,a < n ∧ (a ≠ b ∧ ¬ RA to n a b) ∧ r ∈ mkB (ix bs a)
def gIn (S : Int → Prop) (l : List D.Ins) : Prop := ∀ k,k < l.length → ∀ r ∈ (ix l k).Args,S r ∨ r ∈ (l.take k).flatMap makes3
theorem gIn.add {S : Int → Prop} {l : List D.Ins} {i : D.Ins} (h : gIn S l) (hi : ∀ r ∈ i.Args,S r ∨ r ∈ l.flatMap makes3) : gIn S (l ++ [i]) := fun k hk r hr => by
 rw [List.length_append,List.length_singleton] at hk
 rcases Nat.lt_or_ge k l.length with h1 | h1
 · rw [ix_app h1] at hr
   rw [List.take_append_of_le_length (by omega)]; exact h k h1 r hr
 · have e : k = l.length := by omega
   subst e
   have e2 : ix (l ++ [i]) l.length = i := by rw [ix_eq (by simp)]; simp
   rw [e2] at hr
   rw [List.take_left' rfl]; exact hi r hr
theorem gIn.mono {S S' : Int → Prop} {l : List D.Ins} (h : gIn S l) (hs : ∀ r,S r → S' r) : gIn S' l := fun k hk r hr => (h k hk r hr).imp (hs r) id
structure VI (n : Nat) (to : List (List Int)) (par : Int) (bs : List D.Block) : Prop where
 len : bs.length = n
 gd : ∀ j,j < n → gIn (fun r => Vo n to par bs j r ∨ r ∈ (ix bs j).Phis.map (fun p => p.Dst)) (ix bs j).Ins
 tm : ∀ j,j < n → ∀ r ∈ (ix bs j).Term.Args,Vs n to par bs j r
 ph : ∀ j,j < n → ∀ p ∈ (ix bs j).Phis,∀ x ∈ p.In,(0 ≤ x.From ∧ x.From < n) ∧ Vs n to par bs x.From.toNat x.Val
def upB (bs bs' : List D.Block) : Prop := ∀ j,∀ r ∈ mkB (ix bs j),r ∈ mkB (ix bs' j)
section
variable {n : Nat} {to : List (List Int)} {par : Int} {bs bs' : List D.Block} {b : Nat} {r : Int}
theorem Vs.up (h : Vs n to par bs b r) (hu : upB bs bs') : Vs n to par bs' b r := h.imp id fun ⟨a,h1,h2,h3⟩ => ⟨a,h1,h2,hu a r h3⟩
theorem Vo.up (h : Vo n to par bs b r) (hu : upB bs bs') : Vo n to par bs' b r := h.imp id fun ⟨a,h1,h2,h3⟩ => ⟨a,h1,h2,hu a r h3⟩
theorem Vs.here (hb : b < n) (h : r ∈ mkB (ix bs b)) : Vs n to par bs b r := .inr ⟨b,hb,.inl rfl,h⟩
theorem Vs.split (h : Vs n to par bs b r) : (Vo n to par bs b r ∨ r ∈ (ix bs b).Phis.map (fun p => p.Dst)) ∨ r ∈ (ix bs b).Ins.flatMap makes3 := by
 rcases h with h | ⟨a,h1,h2,h3⟩
 · exact .inl (.inl (.inl h))
 · by_cases e : a = b
   · subst e
     rcases List.mem_append.1 h3 with h4 | h4
     · exact .inl (.inr h4)
     · exact .inr h4
   · exact .inl (.inl (.inr ⟨a,h1,⟨e,h2.resolve_left e⟩,h3⟩))
theorem VI.put {x : D.Block} (h : VI n to par bs) (hb : b < n) (hm : ∀ r ∈ mkB (ix bs b),r ∈ mkB x) (hp : x.Phis.map (fun p => p.Dst) = (ix bs b).Phis.map (fun p => p.Dst) ∨ ∀ r ∈ (ix bs b).Phis.map (fun p => p.Dst),r ∈ x.Phis.map (fun p => p.Dst))
   (hi : gIn (fun r => Vo n to par bs b r ∨ r ∈ (ix bs b).Phis.map (fun p => p.Dst)) x.Ins) (ht : ∀ r ∈ x.Term.Args,Vs n to par bs b r)
   (hq : ∀ p ∈ x.Phis,∀ y ∈ p.In,(0 ≤ y.From ∧ y.From < n) ∧ Vs n to par bs y.From.toNat y.Val) : VI n to par (bs.set b x) ∧ upB bs (bs.set b x) := by
 have hl := h.len
 have hu : upB bs (bs.set b x) := fun j r hr => by
   rw [ix_set (by omega)]; split
   · rename_i e; subst e; exact hm r hr
   · exact hr
 have hp' : ∀ r ∈ (ix bs b).Phis.map (fun p => p.Dst),r ∈ x.Phis.map (fun p => p.Dst) := fun r hr => hp.elim (fun e => by rw [e]; exact hr) (fun h => h r hr)
 refine ⟨⟨by rw [List.length_set]; exact hl,fun j hj => ?_,fun j hj r hr => ?_,fun j hj p hm9 y hy => ?_⟩,hu⟩
 · rw [ix_set (by omega)]; split
   · rename_i e; subst e
     exact hi.mono fun r hr => hr.imp (fun h => h.up hu) (hp' r)
   · exact (h.gd j hj).mono fun r hr => hr.imp (fun h => h.up hu) id
 · rw [ix_set (by omega)] at hr; split at hr
   · rename_i e; subst e; exact (ht r hr).up hu
   · exact (h.tm j hj r hr).up hu
 · rw [ix_set (by omega)] at hm9; split at hm9
   · rename_i e; subst e; have := hq p hm9 y hy; exact ⟨this.1,this.2.up hu⟩
   · have := h.ph j hj p hm9 y hy; exact ⟨this.1,this.2.up hu⟩
theorem VI.addI {i : D.Ins} (h : VI n to par bs) (hb : b < n) (hi : ∀ r ∈ i.Args,Vs n to par bs b r) : VI n to par (bs.set b { (ix bs b) with Ins := (ix bs b).Ins ++ [i] }) ∧ upB bs (bs.set b { (ix bs b) with Ins := (ix bs b).Ins ++ [i] }) ∧ ∀ r ∈ makes3 i,r ∈ mkB (ix (bs.set b { (ix bs b) with Ins := (ix bs b).Ins ++ [i] }) b) := by
 have h1 := h.put (x := { (ix bs b) with Ins := (ix bs b).Ins ++ [i] }) hb (fun r hr => by
   unfold mkB at hr ⊢
   dsimp only
   rw [List.flatMap_append]
   rcases List.mem_append.1 hr with h2 | h2
   · exact List.mem_append.2 (.inl h2)
   · exact List.mem_append.2 (.inr (List.mem_append.2 (.inl h2)))) (.inl rfl) ((h.gd b hb).add fun r hr => (hi r hr).split) (h.tm b hb) (h.ph b hb)
 refine ⟨h1.1,h1.2,fun r hr => ?_⟩
 rw [ix_set (by rw [h.len]; exact hb),if_pos rfl]
 unfold mkB
 dsimp only
 rw [List.flatMap_append]
 exact List.mem_append.2 (.inr (List.mem_append.2 (.inr (by simpa using hr))))
end
structure VB (n : Nat) (to : List (List Int)) (b : Nat) (par : Int) (bs : List D.Block) (lv : List Int) : Prop where
 vi : VI n to par bs
 vl : ∀ x ∈ lv,Vs n to par bs b x
abbrev VM (n : Nat) (to : List (List Int)) (b : Nat) (m : Mk) : Prop := VB n to b m.par m.bs m.lv
structure VG (n : Nat) (to : List (List Int)) (b : Nat) (m m' : Mk) : Prop where
 vm : VM n to b m'
 par : m'.par = m.par
 up : upB m.bs m'.bs
abbrev Wv (n : Nat) (to : List (List Int)) (b : Nat) (m : Mk) (x : Int) : Prop := Vs n to m.par m.bs b x
section
variable {n : Nat} {to : List (List Int)} {b : Nat} {m m' m2 : Mk} {x : Int}
theorem VG.on (g : VG n to b m m') (h : Wv n to b m x) : Wv n to b m' x := by unfold Wv; rw [g.par]; exact h.up g.up
theorem VG.tr (g : VG n to b m m') (h : VG n to b m' m2) : VG n to b m m2 := ⟨h.vm,h.par.trans g.par,fun j r hr => h.up j r (g.up j r hr)⟩
theorem VM.rf (h : VM n to b m) : VG n to b m m := ⟨h,rfl,fun _ _ h => h⟩
theorem VM.same (h : VM n to b m) (h1 : m'.par = m.par) (h2 : m'.bs = m.bs) (h3 : m'.lv = m.lv) : VG n to b m m' := ⟨by unfold VM; rw [h1,h2,h3]; exact h,h1,by rw [h2]; exact fun _ _ h => h⟩
theorem VM.add {i : D.Ins} (h : VM n to b m) (hb : b < n) (hi : ∀ r ∈ i.Args,Wv n to b m r) : VG n to b m (addS (b : Int) i m) ∧ ∀ r ∈ makes3 i,Wv n to b (addS (b : Int) i m) r := by
 obtain ⟨h1,h2,h3⟩ := h.vi.addI hb hi
 have e : (addS (b : Int) i m).bs = m.bs.set b { (ix m.bs b) with Ins := (ix m.bs b).Ins ++ [i] } := rfl
 have hn : ∀ r ∈ makes3 i,Wv n to b (addS (b : Int) i m) r := fun r hr => Vs.here hb (h3 r hr)
 refine ⟨⟨⟨h1,fun y hy => ?_⟩,rfl,h2⟩,hn⟩
 rcases List.mem_append.1 (show y ∈ m.lv ++ makes3 i from hy) with h4 | h4
 · exact (h.vl y h4).up h2
 · exact hn y h4
theorem VM.con {v : Int} (h : VM n to b m) (hb : b < n) : VG n to b m (constS (b : Int) v m) ∧ Wv n to b (constS (b : Int) v m) m.nx := by
 have h1 := VM.add (m := freshS m) (i := ⟨1,m.nx,0,[],v⟩) h hb (fun r hr => by cases hr)
 exact ⟨⟨h1.1.vm,rfl,h1.1.up⟩,h1.2 m.nx (by simp [makes3])⟩
theorem same_value : (valueS m).par = m.par ∧ (valueS m).bs = m.bs ∧ (valueS m).lv = m.lv := by unfold valueS; split <;> exact ⟨rfl,rfl,rfl⟩
theorem same_some0 : (someM0 m).par = m.par ∧ (someM0 m).bs = m.bs ∧ (someM0 m).lv = m.lv := by
 unfold someM0; split
 · exact same_value (m := m)
 · exact same_value
theorem VM.some (h : VM n to b m) (hb : b < n) : VG n to b m (sS9 (b : Int) m) ∧ Wv n to b (sS9 (b : Int) m) (sV9 m) := by
 obtain ⟨e1,e2,e3⟩ := same_some0 (m := m)
 have h0 : VG n to b m (someM0 m) := h.same e1 e2 e3
 unfold sS9 sV9
 by_cases hc : someC m = true
 · rw [if_pos hc,if_pos hc]
   have h1 := VM.con (m := wordS (someM0 m)) (v := wordV (someM0 m)) h0.vm hb
   exact ⟨⟨h1.1.vm,e1,fun j r hr => h1.1.up j r (h0.up j r hr)⟩,h1.2⟩
 · rw [if_neg hc,if_neg hc]
   refine ⟨h0,h0.on ?_⟩
   have hv : valueB m = true := by
     cases h9 : valueB m with
     | true => rfl
     | false => exact absurd (by unfold someC; rw [h9]; rfl) hc
   have hl : m.lv.length ≠ 0 := by unfold valueB at hv; simpa using hv
   unfold valueV
   rw [if_neg hl]
   have hr : 0 ≤ valueI m ∧ valueI m < m.lv.length := by
     unfold valueI; split
     · omega
     · exact tV9 (by omega) m
   exact h.vl _ (ix_mem (l := m.lv) (i := (valueI m).toNat) (by omega))
end
section
variable {n : Nat} {to : List (List Int)} {b : Nat} {m m' m2 : Mk} {x : Int}
theorem w2 {y z : Int} (h1 : Wv n to b m y) (h2 : Wv n to b m z) : ∀ r ∈ [y,z],Wv n to b m r := fun r hr => by
 simp at hr; rcases hr with rfl | rfl <;> assumption
theorem w1 {y : Int} (h1 : Wv n to b m y) : ∀ r ∈ [y],Wv n to b m r := fun r hr => by simp at hr; subst hr; exact h1
theorem VM.me1 (h : VM n to b m) (hb : b < n) : VG n to b m (mem1 (b : Int) m).2 ∧ Wv n to b (mem1 (b : Int) m).2 (mem1 (b : Int) m).1 := by
 have h1 := VM.con (m := tSS m) (v := IntKind.i32.wrap (tVV 9 m)) h hb
 have g1 : VG n to b m (constS (b : Int) (IntKind.i32.wrap (tVV 9 m)) (tSS m)) := ⟨h1.1.vm,rfl,h1.1.up⟩
 have w0 := h1.2
 unfold mem1
 dsimp only
 generalize constS (b : Int) (IntKind.i32.wrap (tVV 9 m)) (tSS m) = m1 at g1 w0 ⊢
 split
 · have g2 : VG n to b m1 (tSS m1) := g1.vm.same rfl rfl rfl
   have h3 := VM.some (m := tSS m1) g2.vm hb
   have h4 := VM.con (m := sS9 (b : Int) (tSS m1)) (v := 7) h3.1.vm hb
   have h6 := VM.add (m := freshS (constS (b : Int) 7 (sS9 (b : Int) (tSS m1)))) (i := ⟨5,(constS (b : Int) 7 (sS9 (b : Int) (tSS m1))).nx,0,[sV9 (tSS m1),(sS9 (b : Int) (tSS m1)).nx],0⟩) h4.1.vm hb (w2 (h4.1.on h3.2) h4.2)
   have g14 := g2.tr (h3.1.tr h4.1)
   generalize constS (b : Int) 7 (sS9 (b : Int) (tSS m1)) = m4 at h4 h6 g14 ⊢
   have g6 : VG n to b m4 (addS (b : Int) ⟨5,m4.nx,0,[sV9 (tSS m1),(sS9 (b : Int) (tSS m1)).nx],0⟩ (freshS m4)) := ⟨h6.1.vm,rfl,h6.1.up⟩
   have w6 := h6.2 m4.nx (by simp [makes3])
   generalize addS (b : Int) ⟨5,m4.nx,0,[sV9 (tSS m1),(sS9 (b : Int) (tSS m1)).nx],0⟩ (freshS m4) = m6 at g6 w6 ⊢
   have h7 := VM.add (m := freshS m6) (i := ⟨2,m6.nx,0,[(tSS m).nx,m4.nx],0⟩) g6.vm hb (w2 (g6.on (g14.on w0)) w6)
   exact ⟨g1.tr (g14.tr (g6.tr ⟨h7.1.vm,rfl,h7.1.up⟩)),h7.2 _ (by simp [makes3])⟩
 · exact ⟨g1.tr (g1.vm.same rfl rfl rfl),w0⟩
theorem VM.me2 (h : VM n to b m) : VG n to b m (mem2 m).2 := by
 unfold mem2; dsimp only; split <;> exact h.same rfl rfl rfl
theorem VM.mem {st : Bool} (h : VM n to b m) (hb : b < n) : VG n to b m (memS (b : Int) st m) := by
 have h1 := h.me1 hb
 have h2 := h1.1.vm.me2
 unfold memS
 dsimp only
 split
 · have h3 := h2.vm.some hb
   have h4 := h3.1.vm.add (i := ⟨16,0,0,[(mem1 (b : Int) m).1,sV9 (mem2 (mem1 (b : Int) m).2).2],(mem2 (mem1 (b : Int) m).2).1⟩) hb (w2 (h3.1.on (h2.on h1.2)) h3.2)
   exact h1.1.tr (h2.tr (h3.1.tr h4.1))
 · have h4 := VM.add (m := freshS (mem2 (mem1 (b : Int) m).2).2) (i := ⟨15,(mem2 (mem1 (b : Int) m).2).2.nx,0,[(mem1 (b : Int) m).1],(mem2 (mem1 (b : Int) m).2).1⟩) h2.vm hb (w1 (h2.on h1.2))
   exact h1.1.tr (h2.tr ⟨h4.1.vm,rfl,h4.1.up⟩)
theorem VM.args (hb : b < n) : ∀ (k : Nat) (l : List Int) (m : Mk),VM n to b m → (∀ x ∈ l,Wv n to b m x) → VG n to b m (argsL (b : Int) k l m).2 ∧ ∀ x ∈ (argsL (b : Int) k l m).1,Wv n to b (argsL (b : Int) k l m).2 x
 | 0,l,m,h,hl => ⟨h.rf,hl⟩
 | k + 1,l,m,h,hl => by
   have h1 := h.some hb
   rw [argsL]
   obtain ⟨a,d⟩ := VM.args hb k (l ++ [sV9 m]) (sS9 (b : Int) m) h1.1.vm (fun x hx => by
     rcases List.mem_append.1 hx with h2 | h2
     · exact h1.1.on (hl x h2)
     · simp at h2; subst h2; exact h1.2)
   exact ⟨h1.1.tr a,d⟩
theorem VM.ad (h : VM n to b m) (hb : b < n) {i : D.Ins} (hs : m'.par = m.par) (hs2 : m'.bs = m.bs) (hs3 : m'.lv = m.lv) (hi : ∀ r ∈ i.Args,Wv n to b m r) : VG n to b m (addS (b : Int) i m') := by
 have g := h.same hs hs2 hs3
 have h1 := g.vm.add (i := i) hb (fun r hr => g.on (hi r hr))
 exact g.tr h1.1
theorem VM.co (h : VM n to b m) (hb : b < n) {v : Int} (hs : m'.par = m.par) (hs2 : m'.bs = m.bs) (hs3 : m'.lv = m.lv) : VG n to b m (constS (b : Int) v m') ∧ Wv n to b (constS (b : Int) v m') m'.nx := by
 have g := h.same hs hs2 hs3
 have h1 := g.vm.con (v := v) hb
 exact ⟨g.tr h1.1,h1.2⟩
theorem VM.ins (h : VM n to b m) (hb : b < n) : VG n to b m (insS (b : Int) m) := by
 have g1 : VG n to b m (tSS m) := h.same rfl rfl rfl
 have h2 := g1.vm.some hb
 have h3 := h2.1.vm.some hb
 have w1' := h3.1.on h2.2
 have g3 := g1.tr (h2.1.tr h3.1)
 unfold insS
 dsimp only
 generalize tVV 20 m = k
 generalize tSS m = m1 at g1 h2 h3 w1' g3 ⊢
 split
 · split
   · have h4 := VM.co h3.1.vm hb (m' := tSS (tSS (sS9 (b : Int) (sS9 (b : Int) m1)))) (v := IntKind.i32.wrap (tVV 40 (tSS (sS9 (b : Int) (sS9 (b : Int) m1))) - 8)) rfl rfl rfl
     exact g3.tr (h4.1.tr (h4.1.vm.ad hb rfl rfl rfl (w2 (h4.1.on w1') h4.2)))
   · exact g3.tr (h3.1.vm.ad hb rfl rfl rfl (w2 w1' h3.2))
 split
 · exact g3.tr (h3.1.vm.ad hb rfl rfl rfl (w2 w1' h3.2))
 split
 · have h4 := VM.co h2.1.vm hb (m' := tSS (sS9 (b : Int) m1)) (v := IntKind.i32.wrap (tVV 12 (sS9 (b : Int) m1))) rfl rfl rfl
   have g4 := g1.tr (h2.1.tr h4.1)
   split
   · have h5 := VM.co h4.1.vm hb (m' := tSS (tSS (constS (b : Int) (IntKind.i32.wrap (tVV 12 (sS9 (b : Int) m1))) (tSS (sS9 (b : Int) m1))))) (v := IntKind.i32.wrap (1 + IntKind.i32.wrap (tVV 12 (tSS (constS (b : Int) (IntKind.i32.wrap (tVV 12 (sS9 (b : Int) m1))) (tSS (sS9 (b : Int) m1))))))) rfl rfl rfl
     exact g4.tr (h5.1.tr (h5.1.vm.ad hb rfl rfl rfl (w2 (h5.1.on (h4.1.on h2.2)) h5.2)))
   · exact g4.tr (h4.1.vm.ad hb rfl rfl rfl (w2 (h4.1.on h2.2) h4.2))
 split
 · exact g1.tr (g1.vm.mem hb)
 split
 · obtain ⟨a,d⟩ := VM.args hb (tVV 5 m1).toNat [] (tSS m1) g1.vm (fun x hx => by cases hx)
   have a' : VG n to b m1 (argsL (b : Int) (tVV 5 m1).toNat [] (tSS m1)).2 := ⟨a.vm,a.par,a.up⟩
   exact g1.tr (a'.tr (a.vm.ad hb rfl rfl rfl d))
 split
 · exact g3.tr (h3.1.vm.ad hb rfl rfl rfl (w2 w1' h3.2))
 · exact g1.tr (VM.co g1.vm hb (m' := wordS m1) (v := wordV m1) rfl rfl rfl).1
theorem VM.is (hb : b < n) : ∀ (k : Nat) {m : Mk},VM n to b m → VG n to b m (insN b k m)
 | 0,_,h => h.rf
 | k + 1,_,h => (h.ins hb).tr (VM.is hb k (h.ins hb).vm)
theorem VM.sT {t : D.Term} (h : VM n to b m) (hb : b < n) (hs : m'.par = m.par) (hs2 : m'.bs = m.bs) (hs3 : m'.lv = m.lv) (ht : ∀ r ∈ t.Args,Wv n to b m r) : VG n to b m (setT (b : Int) t m') := by
 have h1 := h.vi.put (x := { (ix m.bs b) with Term := t }) hb (fun r hr => hr) (.inl rfl) (h.vi.gd b hb) ht (h.vi.ph b hb)
 have e : (setT (b : Int) t m').bs = m.bs.set b { (ix m.bs b) with Term := t } := by show m'.bs.set _ _ = _; rw [hs2]; rfl
 exact ⟨⟨by rw [e]; show VI n to m'.par _; rw [hs]; exact h1.1,fun y hy => by
   rw [e]; show Vs n to m'.par _ b y; rw [hs]; exact (h.vl y (by rw [← hs3]; exact hy)).up h1.2⟩,hs,by rw [e]; exact h1.2⟩
theorem VM.en {l : List Int} (h : VM n to b m) (hb : b < n) : VG n to b m (endS (b : Int) l m) := by
 unfold endS
 split
 · split
   · exact h.sT hb rfl rfl rfl (fun r hr => by cases hr)
   split
   · have g1 : VG n to b m (tSS m) := h.same rfl rfl rfl
     have h1 := g1.vm.some hb
     exact g1.tr (h1.1.tr (h1.1.vm.sT hb rfl rfl rfl (w1 h1.2)))
   · exact h.sT hb rfl rfl rfl (fun r hr => by cases hr)
 split
 · exact h.sT hb rfl rfl rfl (fun r hr => by cases hr)
 split
 · have h3 := h.some hb
   have g2 : VG n to b (sS9 (b : Int) m) (tSS (sS9 (b : Int) m)) := h3.1.vm.same rfl rfl rfl
   dsimp only
   split
   · have h4 := g2.vm.some hb
     have g5 := VM.same (m' := tSS (freshS (sS9 (b : Int) (tSS (sS9 (b : Int) m))))) h4.1.vm rfl rfl rfl
     have h5 := g5.vm.add (i := ⟨ix [11,12,13] (tVV 3 (freshS (sS9 (b : Int) (tSS (sS9 (b : Int) m))))).toNat,(sS9 (b : Int) (tSS (sS9 (b : Int) m))).nx,0,[sV9 m,sV9 (tSS (sS9 (b : Int) m))],0⟩) hb (w2 (g5.on (h4.1.on (g2.on h3.2))) (g5.on h4.2))
     refine h3.1.tr (g2.tr (h4.1.tr (g5.tr (h5.1.tr (h5.1.vm.sT hb rfl rfl rfl (w1 (h5.2 _ ?_)))))))
     have hop : ∀ i : Nat,i < 3 → ¬ ix [(11 : Int),12,13] i = 16 ∧ ¬ ix [(11 : Int),12,13] i = 18 := by decide
     have ho := hop (tVV 3 (freshS (sS9 (b : Int) (tSS (sS9 (b : Int) m))))).toNat (by have := tV9 (n := 3) (by omega) (freshS (sS9 (b : Int) (tSS (sS9 (b : Int) m)))); omega)
     unfold makes3
     rw [if_neg ho.1,if_neg ho.2]; simp
   · exact h3.1.tr (h3.1.vm.sT hb rfl rfl rfl (w1 h3.2))
 · have h3 := h.some hb
   have h4 := h3.1.vm.con (v := 7) hb
   have h5 := VM.add (m := freshS (constS (b : Int) 7 (sS9 (b : Int) m))) (i := ⟨5,(constS (b : Int) 7 (sS9 (b : Int) m)).nx,0,[sV9 m,(sS9 (b : Int) m).nx],0⟩) h4.1.vm hb (w2 (h4.1.on h3.2) h4.2)
   dsimp only
   have g5 : VG n to b (constS (b : Int) 7 (sS9 (b : Int) m)) (addS (b : Int) ⟨5,(constS (b : Int) 7 (sS9 (b : Int) m)).nx,0,[sV9 m,(sS9 (b : Int) m).nx],0⟩ (freshS (constS (b : Int) 7 (sS9 (b : Int) m)))) := ⟨h5.1.vm,rfl,h5.1.up⟩
   exact h3.1.tr (h4.1.tr (g5.tr (g5.vm.sT hb rfl rfl rfl (w1 (h5.2 _ (by simp [makes3]))))))
end
abbrev VN (n : Nat) (to : List (List Int)) (m : Mk) : Prop := VI n to m.par m.bs
section
variable {n b c : Nat} {to : List (List Int)} {m m' : Mk}
theorem RI.ra (h : RI n b c to m) (hn : 0 < n) {w x : Nat} (hr : ix (reach3 (fnM m) (w : Int)) x = false) : ¬ RA to n w x := fun h9 => by
 have := ra_reach (f := fnM m) h.len hn h.tos h9
 rw [hr] at this; cases this
theorem VN.lm {dn : List Bool} {q : Nat} (v : VN n to m) (h : RI n b c to m) (hn : 0 < n) : VM n to q (lvM n q dn m) := ⟨v,fun x hx => by
 show Vs n to m.par m.bs q x
 rcases List.mem_append.1 (show x ∈ numsL m.par.toNat ++ (List.range n).flatMap (fun i => lvB (fnM m) dn q i) from hx) with h1 | h1
 · have := numsL_mem h1; exact .inl (by omega)
 · obtain ⟨a,h2,h3⟩ := List.mem_flatMap.1 h1
   have ha := List.mem_range.1 h2
   unfold lvB at h3
   split at h3
   · cases h3
   · rename_i hs
     refine .inr ⟨a,ha,?_,h3⟩
     by_cases e : a = q
     · exact .inl e
     · refine .inr (h.ra hn ?_)
       unfold skipA at hs
       simp [e] at hs
       exact hs.2⟩
theorem VN.bl {dn : List Bool} {q : Nat} (v : VN n to m) (h : RI n b c to m) (hq : q < n) : VN n to (blkM n to q dn m) ∧ (blkM n to q dn m).par = m.par := by
 have h0 := v.lm (dn := dn) (q := q) h (by omega)
 have g1 : VG n to q (lvM n q dn m) (tSS (lvM n q dn m)) := h0.same rfl rfl rfl
 have g2 := VM.is hq (tVV 7 (lvM n q dn m)).toNat g1.vm
 have g3 := VM.en (l := ix to q) g2.vm hq
 unfold blkM
 exact ⟨g3.vm.vi,g3.par.trans g2.par⟩
theorem VN.row (hP : PB n to) (hL : ∀ j,(ix to j).length ≤ 65) : ∀ (k b c : Nat) (dn : List Bool) (m : Mk),b + k = n → dn.length = n → (∀ j,j < n → ix dn j = decide (j < b)) → RI n b c to m → VN n to m → VN n to (rowS n to k b dn m).2
 | 0,b,c,dn,m,hb,hl,hd,h,v => v
 | k + 1,b,c,dn,m,hb,hl,hd,h,v => by
   rw [rowS,if_pos (h.ready hP (by omega) hd)]
   exact VN.row hP hL k (b + 1) (c + 120) (dn.set b true) (blkM n to b (dn.set b true) m) (by omega) (by rw [List.length_set]; exact hl) (fun j hj => by
     rw [ix_set (by omega)]; split
     · rename_i e; subst e; simp
     · rename_i e; rw [hd j hj,decide_eq_decide]; omega) (h.bl (by omega) hL) (v.bl h (by omega)).1
theorem VN.turn (hP : PB n to) (hL : ∀ j,(ix to j).length ≤ 65) (hn : 0 < n) (h : RI n 0 c to m) (v : VN n to m) : VN n to (turnS n to n (List.replicate n false) m).2 := by
 obtain ⟨k,rfl⟩ : ∃ k,n = k + 1 := ⟨n - 1,by omega⟩
 rw [turnS]
 obtain ⟨x,y⟩ := RI.row hP hL (k + 1) 0 c (List.replicate (k + 1) false) m (by omega) (by simp) (fun j hj => by rw [ix_rep]; simp) h
 rw [turn_idle k _ _ y]
 exact VN.row hP hL (k + 1) 0 c (List.replicate (k + 1) false) m (by omega) (by simp) (fun j hj => by rw [ix_rep]; simp) h v
theorem VN.ap {j : Nat} (v : VN n to m) (hj : j < n) : VN n to (addP j m) := by
 refine (VI.put (x := { (ix m.bs j) with Phis := (ix m.bs j).Phis ++ [⟨m.nx,[]⟩] }) v hj (fun r hr => ?_) (.inr fun r hr => ?_) (v.gd j hj) (v.tm j hj) (fun p hp x hx => ?_)).1
 · unfold mkB at hr ⊢
   dsimp only
   rw [List.map_append]
   rcases List.mem_append.1 hr with h2 | h2
   · exact List.mem_append.2 (.inl (List.mem_append.2 (.inl h2)))
   · exact List.mem_append.2 (.inr h2)
 · rw [List.map_append]; exact List.mem_append.2 (.inl hr)
 · rcases List.mem_append.1 hp with h2 | h2
   · exact v.ph j hj p h2 x hx
   · simp at h2; subst h2; cases hx
theorem VN.pn {j : Nat} (hj : j < n) : ∀ (k : Nat) {m : Mk},VN n to m → VN n to (phiN j k m)
 | 0,_,h => h
 | k + 1,_,h => VN.pn hj k (h.ap hj)
theorem VN.ps : ∀ (k j : Nat) (ph : List Int) (m : Mk),j + k = n → VN n to m → VN n to (phiS k j ph m).2
 | 0,j,ph,m,hj,h => h
 | k + 1,j,ph,m,hj,h => by
   rw [phiS]
   exact VN.ps k (j + 1) _ _ (by omega) (VN.pn (m := tSS m) (by omega) _ h)
theorem phL_in {t : D.Tg3} {x : Int} {b : Int} : ∀ (l : List D.Phi) (i : Nat),t ∈ phL b i l → x ∈ t.Makes → t.Block = b ∧ x ∈ l.map (fun p => p.Dst)
 | [],_,h,_ => by cases h
 | p :: l,i,h,hx => by
   rw [phL] at h
   rcases List.mem_cons.1 h with rfl | h
   · simp [phT] at hx; subst hx; exact ⟨rfl,by simp⟩
   · have := phL_in l _ h hx; exact ⟨this.1,by simp only [List.map_cons,List.mem_cons]; exact .inr this.2⟩
theorem inL_in {t : D.Tg3} {x : Int} {b : Int} : ∀ (l : List D.Ins) (i : Nat),t ∈ inL b i l → x ∈ t.Makes → t.Block = b ∧ x ∈ l.flatMap makes3
 | [],_,h,_ => by cases h
 | p :: l,i,h,hx => by
   rw [inL] at h
   rcases List.mem_cons.1 h with rfl | h
   · exact ⟨rfl,List.mem_flatMap.2 ⟨p,by simp,hx⟩⟩
   · have := inL_in l _ h hx
     obtain ⟨q,h1,h2⟩ := List.mem_flatMap.1 this.2
     exact ⟨this.1,List.mem_flatMap.2 ⟨q,by simp [h1],h2⟩⟩
theorem blL_in {t : D.Tg3} {x : Int} : ∀ (l : List D.Block) (k : Nat),t ∈ blL k l → x ∈ t.Makes → ∃ a : Nat,a < l.length ∧ t.Block = ((k + a : Nat) : Int) ∧ x ∈ mkB (ix l a)
 | [],_,h,_ => by cases h
 | y :: l,k,h,hx => by
   rw [blL] at h
   rcases List.mem_append.1 h with h1 | h1
   · have := phL_in _ _ h1 hx
     exact ⟨0,by simp,by rw [this.1]; simp,List.mem_append.2 (.inl this.2)⟩
   · rcases List.mem_append.1 h1 with h1 | h1
     · have := inL_in _ _ h1 hx
       exact ⟨0,by simp,by rw [this.1]; simp,List.mem_append.2 (.inr this.2)⟩
     · rcases List.mem_cons.1 h1 with rfl | h1
       · cases hx
       · obtain ⟨a,h2,h3,h4⟩ := blL_in l (k + 1) h1 hx
         exact ⟨a + 1,by simp; omega,by rw [h3]; congr 1; omega,by rw [ix_cons]; exact h4⟩
theorem VN.stand {p : Int} (v : VN n to m) (h : RI n b c to m) (hp : 0 ≤ p ∧ p < n) : ∀ x ∈ stand3 (fnM m) p,Wv n to p.toNat m x := fun x hx => by
 rcases List.mem_append.1 hx with h1 | h1
 · have := numsL_mem h1
   have e : (fnM m).Params = m.par := rfl
   rw [e] at this; exact .inl (by omega)
 · obtain ⟨t,h2,h3⟩ := List.mem_flatMap.1 h1
   split at h3
   · rename_i hs
     obtain ⟨a,h4,h5,h6⟩ := blL_in m.bs 0 h2 h3
     rw [h.len] at h4
     refine .inr ⟨a,h4,?_,h6⟩
     unfold stands3 at hs
     rw [Bool.or_eq_true,decide_eq_true_eq,h5,Nat.zero_add] at hs
     rcases hs with hs | hs
     · exact .inl (by omega)
     · exact .inr (h.ra (by omega) (by simpa using hs))
   · cases h3
theorem VN.ix0 {p : Int} (v : VN n to m) (h : RI n b c to m) (hp : 0 ≤ p ∧ p < n) : VN n to (inX p m).2 ∧ (inX p m).2.par = m.par ∧ upB m.bs (inX p m).2.bs ∧ Wv n to p.toNat (inX p m).2 (inX p m).1.Val := by
 unfold inX
 split
 · have h1 := VI.addI (i := ⟨1,m.nx,0,[],wordV m⟩) v (b := p.toNat) (by omega) (fun r hr => by cases hr)
   have h2 := tV9 (n := 1) (by omega) (constS p (wordV m) (wordS m))
   refine ⟨h1.1,rfl,h1.2.1,?_⟩
   dsimp only
   rw [show tVV 1 (constS p (wordV m) (wordS m)) = 0 by omega]
   exact Vs.here (by omega) (h1.2.2 m.nx (by simp [makes3]))
 · rename_i h0
   have h1 := tV9 (n := (stand3 (fnM m) p).length) (by omega) m
   exact ⟨v,rfl,fun _ _ h => h,v.stand h hp _ (ix_mem (by omega))⟩
theorem VN.is0 {p : List Int} (hp : ∀ x ∈ p,0 ≤ x ∧ x < n) : ∀ (k i : Nat) {c : Nat} (l : List D.In) (m : Mk),i + k = p.length → RI n b c to m → VN n to m → (∀ x ∈ l,(0 ≤ x.From ∧ x.From < n) ∧ Wv n to x.From.toNat m x.Val) →
   VN n to (inS p k i l m).2 ∧ (inS p k i l m).2.par = m.par ∧ upB m.bs (inS p k i l m).2.bs ∧ ∀ x ∈ (inS p k i l m).1,(0 ≤ x.From ∧ x.From < n) ∧ Wv n to x.From.toNat (inS p k i l m).2 x.Val
 | 0,i,_,l,m,hi,h,v,hl => ⟨v,rfl,fun _ _ h => h,hl⟩
 | k + 1,i,c,l,m,hi,h,v,hl => by
   have hpi := hp _ (ix_mem (l := p) (i := i) (by omega))
   obtain ⟨a1,a2,a3,a4,a5⟩ := h.ix0 (p := ix p i) hpi
   obtain ⟨d1,d2,d3,d4⟩ := v.ix0 h hpi
   obtain ⟨b1,b2,b3,b4⟩ := VN.is0 hp k (i + 1) (l ++ [(inX (ix p i) m).1]) (inX (ix p i) m).2 (by omega) a1 d1 (fun x hx => by
     rcases List.mem_append.1 hx with h1 | h1
     · have := hl x h1
       exact ⟨this.1,by unfold Wv; rw [d2]; exact this.2.up d3⟩
     · simp at h1; subst h1; rw [a3]; exact ⟨hpi,d4⟩)
   rw [inS]
   exact ⟨b1,b2.trans d2,fun j r hr => b3 j r (d3 j r hr),b4⟩
theorem VN.pi0 {j i : Nat} {l : List D.In} (v : VN n to m) (hj : j < n) (hl : ∀ x ∈ l,(0 ≤ x.From ∧ x.From < n) ∧ Wv n to x.From.toNat m x.Val) : VN n to (putIn j i l m) := by
 have e : ((ix m.bs j).Phis.set i { (ix (ix m.bs j).Phis i) with In := l }).map (fun p => p.Dst) = (ix m.bs j).Phis.map (fun p => p.Dst) := nodup_put
 refine (VI.put (x := { (ix m.bs j) with Phis := (ix m.bs j).Phis.set i { (ix (ix m.bs j).Phis i) with In := l } }) v hj (fun r hr => ?_) (.inl e) (v.gd j hj) (v.tm j hj) (fun p hp x hx => ?_)).1
 · unfold mkB at hr ⊢
   dsimp only
   rw [e]; exact hr
 · rcases List.mem_or_eq_of_mem_set hp with h2 | h2
   · exact v.ph j hj p h2 x hx
   · subst h2; exact hl x hx
theorem VN.ip0 {p : List Int} {j : Nat} (hp : ∀ x ∈ p,0 ≤ x ∧ x < n) (h9 : p.length ≤ 9) (hj : j < n) : ∀ (k i : Nat) {c : Nat} (m : Mk),RI n b c to m → VN n to m → VN n to (inP p j k i m)
 | 0,i,_,m,h,v => v
 | k + 1,i,c,m,h,v => by
   obtain ⟨a1,a2,a3,a4,a5⟩ := RI.is0 hp p.length 0 [] m (by omega) h (fun x hx => by cases hx) rfl
   obtain ⟨d1,d2,d3,d4⟩ := VN.is0 hp p.length 0 [] m (by omega) h v (fun x hx => by cases hx)
   rw [inP]
   exact VN.ip0 hp h9 hj k (i + 1) _ (a1.pi0 (i := i) hj a3) (d1.pi0 (i := i) hj d4)
theorem VN.fi0 {ph : List Int} (hn9 : n ≤ 9) : ∀ (k j : Nat) {c : Nat} (m : Mk),j + k = n → RI n b c to m → VN n to m → VN n to (finS ph k j m)
 | 0,j,_,m,hj,h,v => v
 | k + 1,j,c,m,hj,h,v => by
   have hpe : pd3 (fnM m) (j : Int) = pT to n (j : Int) := by
     show predsT3 m.bs m.bs.length _ = _
     rw [h.len]; exact preds_pT n _ (fun q hq => h.tos q hq)
   have b1 := (RI.ip0 (p := pT to n (j : Int)) (j := j) (fun x hx => pT_rng n _ x hx) (Nat.le_trans (pT_len n _) hn9) (by omega) (ix ph j).toNat 0 m h).1
   rw [finS,hpe]
   exact VN.fi0 hn9 k (j + 1) (inP (pT to n (j : Int)) j (ix ph j).toNat 0 m) (by omega) b1 (VN.ip0 (fun x hx => pT_rng n _ x hx) (Nat.le_trans (pT_len n _) hn9) (by omega) (ix ph j).toNat 0 m h v)
end
theorem mdB_VN (s : List Int) : VN (mdN s).toNat (mdT s).1 (mdB s) := by
 obtain ⟨a1,a2,a3,a4,a5⟩ := toS_bs (mdT s).1 (mdN s).toNat 0 { (mdT s).2 with bs := List.replicate (mdN s).toNat default }
 have hlen : (List.replicate (mdN s).toNat (default : D.Block)).length = (mdN s).toNat := by simp
 have hb : ∀ j,j < (mdN s).toNat → ix (mdB s).bs j = { (default : D.Block) with Term := { (default : D.Block).Term with To := ix (mdT s).1 j } } := fun j hj => by
   have := a5 j (by show j < (List.replicate _ _).length; rw [hlen]; exact hj)
   rw [if_pos (by omega)] at this
   dsimp only at this
   rw [ix_repD] at this
   exact this
 exact ⟨a1.trans hlen,fun j hj => by rw [hb j hj]; exact fun k hk => (by cases hk),fun j hj r hr => (by rw [hb j hj] at hr; cases hr),fun j hj p hp => (by rw [hb j hj] at hp; cases hp)⟩
theorem made3_dom (s : List Int) : VI (mdN s).toNat (mdT s).1 (made3 s).Params (made3 s).Blocks := by
 obtain ⟨h0,t1,t2,hn,hp0⟩ := mdB_RI s
 obtain ⟨p1,p2,p3⟩ := RI.ps ((mdN s).toNat - 1) 1 4 (List.replicate (mdN s).toNat 0) (mdB s) (by omega) (by simp) (fun j => rng_rep j) hp0 h0
 have h1 : RI (mdN s).toNat 0 31 (mdT s).1 (mdH s).2 := p1.mono (by omega)
 have hL : ∀ j,(ix (mdT s).1 j).length ≤ 65 := fun j => Nat.le_trans (t1.2.1 j) (by omega)
 have h2 : RI (mdN s).toNat (mdN s).toNat 1111 (mdT s).1 (mdD s).2 := (h1.turn t2 hL (by omega)).mono (by omega)
 have v1 : VN (mdN s).toNat (mdT s).1 (mdH s).2 := VN.ps _ 1 _ _ (by omega) (mdB_VN s)
 have v2 : VN (mdN s).toNat (mdT s).1 (mdD s).2 := VN.turn t2 hL (by omega) h1 v1
 exact VN.fi0 hn.2 _ 1 _ (by omega) h2 v2
def gQ (S : Int → Prop) (l : List D.Mach) : Prop := ∀ k,k < l.length → ∀ r ∈ takesM (ix l k),S r ∨ r ∈ (l.take k).flatMap makesM
def Wq (S : Int → Prop) (m : Mq) (r : Int) : Prop := S r ∨ r ∈ m.l.flatMap makesM
structure QG (S : Int → Prop) (m m' : Mq) : Prop where
 g : gQ S m'.l
 up : ∀ r ∈ m.l.flatMap makesM,r ∈ m'.l.flatMap makesM
theorem two_tm {op d a b : Int} (ho : 5 ≤ op ∧ op ≤ 17) : takesM ⟨op,d,0,a,b,0,0,[]⟩ = [a,b] ∧ makesM ⟨op,d,0,a,b,0,0,[]⟩ = [d] := by
 unfold takesM makesM
 rw [if_neg (by dsimp only; omega),if_pos (by dsimp only; omega),if_neg (by dsimp only; omega),if_neg (by dsimp only; omega),if_neg (by dsimp only; omega)]
 exact ⟨rfl,rfl⟩
section
variable {S : Int → Prop} {m m' m2 : Mq} {r : Int}
theorem QG.on (h : QG S m m') (hr : Wq S m r) : Wq S m' r := hr.imp id (h.up r)
theorem QG.tr (h : QG S m m') (h2 : QG S m' m2) : QG S m m2 := ⟨h2.g,fun r hr => h2.up r (h.up r hr)⟩
theorem QG.rf (h : gQ S m.l) : QG S m m := ⟨h,fun _ h => h⟩
theorem QG.same (h : QG S m m') (e : m2.l = m'.l) : QG S m m2 := ⟨by rw [e]; exact h.g,by rw [e]; exact h.up⟩
theorem QG.put {i : D.Mach} (h : QG S m m') (hi : ∀ r ∈ takesM i,Wq S m' r) : QG S m (putQ i m') ∧ ∀ r ∈ makesM i,r ∈ (putQ i m').l.flatMap makesM := by
 have hm : ∀ r ∈ m'.l.flatMap makesM,r ∈ (m'.l ++ [i]).flatMap makesM := fun r hr => by rw [List.flatMap_append]; exact List.mem_append.2 (.inl hr)
 refine ⟨⟨fun k hk r hr => ?_,fun r hr => hm r (h.up r hr)⟩,fun r hr => ?_⟩
 · have hk' : k < m'.l.length + 1 := by simpa [putQ] using hk
   show S r ∨ r ∈ ((m'.l ++ [i]).take k).flatMap makesM
   have hr' : r ∈ takesM (ix (m'.l ++ [i]) k) := hr
   rcases Nat.lt_or_ge k m'.l.length with h1 | h1
   · rw [ix_app h1] at hr'
     rw [List.take_append_of_le_length (by omega)]; exact h.g k h1 r hr'
   · have e : k = m'.l.length := by omega
     subst e
     have e2 : ix (m'.l ++ [i]) m'.l.length = i := by rw [ix_eq (by simp)]; simp
     rw [e2] at hr'
     rw [List.take_left' rfl]; exact hi r hr'
 · show r ∈ (m'.l ++ [i]).flatMap makesM
   rw [List.flatMap_append]; exact List.mem_append.2 (.inr (by simpa using hr))
theorem q0 {i : D.Mach} (e : takesM i = []) : ∀ r ∈ takesM i,Wq S m r := fun r hr => by rw [e] at hr; cases hr
theorem q1 {i : D.Mach} {a : Int} (e : takesM i = [a]) (h : Wq S m a) : ∀ r ∈ takesM i,Wq S m r := fun r hr => by rw [e] at hr; simp at hr; subst hr; exact h
theorem q2 {i : D.Mach} {a b : Int} (e : takesM i = [a,b]) (h : Wq S m a) (h2 : Wq S m b) : ∀ r ∈ takesM i,Wq S m r := fun r hr => by rw [e] at hr; simp at hr; rcases hr with rfl | rfl <;> assumption
theorem q3 {i : D.Mach} {a b c : Int} (e : takesM i = [a,b,c]) (h : Wq S m a) (h2 : Wq S m b) (h3 : Wq S m c) : ∀ r ∈ takesM i,Wq S m r := fun r hr => by rw [e] at hr; simp at hr; rcases hr with rfl | rfl | rfl <;> assumption
theorem m1 {i : D.Mach} {d : Int} {l : List Int} (e : makesM i = [d]) (h : ∀ r ∈ makesM i,r ∈ l) : d ∈ l := h d (by rw [e]; simp)
theorem QG.cop (h : QG S m m') (hr : Wq S m' r) : QG S m (copQ r m') ∧ Wq S (copQ r m') (copV r m') := by
 unfold copQ copV; split
 · exact ⟨h.same rfl,hr⟩
 · have h1 := QG.put (m' := tempQ (takeQ m')) (i := ⟨1,m'.nx,0,r,0,0,0,[]⟩) (h.same rfl) (q1 rfl hr)
   exact ⟨h1.1,.inr (m1 rfl h1.2)⟩
theorem QG.word {x : Int} (h : QG S m m') : QG S m (wordQ r x m') ∧ r ∈ (wordQ r x m').l.flatMap makesM := by
 have h0 : QG S m (wordQ0 x m') := by unfold wordQ0; split <;> exact h.same rfl
 unfold wordQ; split
 · have h1 := h0.put (i := ⟨3,r,0,0,0,0,x,[]⟩) (q0 rfl); exact ⟨h1.1,m1 rfl h1.2⟩
 · have h1 := h0.put (i := ⟨4,r,0,0,0,0,x,[]⟩) (q0 rfl); exact ⟨h1.1,m1 rfl h1.2⟩
theorem QG.tw3 {x : D.Ins} {p q : Int} (h : QG S m m') (ho : 2 ≤ x.Op ∧ x.Op ≤ 14) (hp : Wq S m' p) (hq : Wq S m' q) : QG S m (two3 x p q m') ∧ x.Dst ∈ (two3 x p q m').l.flatMap makesM := by
 have ht : ∀ d,takesM (opQ x d p q) = [p,q] ∧ makesM (opQ x d p q) = [d] := fun d => two_tm (by omega)
 unfold two3
 split
 · have h1 := QG.put (m' := tempQ (tempQ (takeQ m'))) (i := opQ x m'.nx p q) (h.same rfl) (q2 (ht _).1 hp hq)
   have h2 := h1.1.put (i := ⟨18,m'.nx + 1,0,m'.nx,0,0,100,[]⟩) (q1 rfl (.inr (m1 (ht _).2 h1.2)))
   have h3 := h2.1.put (i := ⟨18,x.Dst,0,m'.nx + 1,0,0,-100,[]⟩) (q1 rfl (.inr (m1 rfl h2.2)))
   exact ⟨h3.1,m1 rfl h3.2⟩
 split
 · have h1 := QG.put (m' := tempQ (takeQ m')) (i := opQ x m'.nx p q) (h.same rfl) (q2 (ht _).1 hp hq)
   have h2 := h1.1.put (i := ⟨20,x.Dst,0,m'.nx,0,0,0,[]⟩) (q1 rfl (.inr (m1 (ht _).2 h1.2)))
   exact ⟨h2.1,m1 rfl h2.2⟩
 split
 · have h0 : QG S m' (tempQ (takeQ m')) := ⟨h.g,fun _ h => h⟩
   have h1 := QG.word (r := m'.nx) (x := 0) h0
   have h2 := (h.tr h1.1).put (i := ⟨23,x.Dst,0,p,q,m'.nx,0,[]⟩) (q3 rfl (h1.1.on hp) (h1.1.on hq) (.inr h1.2))
   exact ⟨h2.1,m1 rfl h2.2⟩
 · have h1 := QG.put (m' := takeQ m') (i := opQ x x.Dst p q) (h.same rfl) (q2 (ht _).1 hp hq)
   exact ⟨h1.1,m1 (ht _).2 h1.2⟩
theorem QG.two {x : D.Ins} (h : QG S m m') (ho : 2 ≤ x.Op ∧ x.Op ≤ 14) (hp : Wq S m' (ix x.Args 0)) (hq : Wq S m' (ix x.Args 1)) : QG S m (twoQ x m') ∧ x.Dst ∈ (twoQ x m').l.flatMap makesM := by
 have h1 := (QG.rf h.g).cop hp
 have h2 := (QG.rf h1.1.g).cop (h1.1.on hq)
 have h3 := (h.tr (h1.1.tr h2.1)).tw3 ho (h2.1.on h1.2) h2.2
 exact h3
theorem QG.mem2 {x : D.Ins} {p : Int} (h : QG S m m') (ho : x.Op = 15 ∨ x.Op = 16 ∧ Wq S m' (ix x.Args 1)) (hp : Wq S m' p) : QG S m (mem2Q x p m') ∧ (x.Op = 15 → x.Dst ∈ (mem2Q x p m').l.flatMap makesM) := by
 have h0 : QG S m' (tempQ (memQ0 x.Imm m')) := by unfold memQ0; split <;> exact ⟨h.g,fun _ h => h⟩
 have h1 := QG.word (r := m'.nx) (x := x.Imm) h0
 unfold mem2Q
 split
 · split
   · have h2 := QG.put (m' := takeQ m') (i := ⟨24,x.Dst,0,p,0,0,x.Imm,[]⟩) (h.same rfl) (q1 rfl hp)
     exact ⟨h2.1,fun _ => m1 rfl h2.2⟩
   · rename_i h15
     have h2 := QG.put (m' := takeQ m') (i := ⟨26,0,0,p,ix x.Args 1,0,x.Imm,[]⟩) (h.same rfl) (q2 rfl hp (ho.elim (fun h => absurd h h15) (fun h => h.2)))
     exact ⟨h2.1,fun h => absurd h h15⟩
 split
 · have h2 := (h.tr h1.1).put (i := ⟨25,x.Dst,0,p,m'.nx,0,0,[]⟩) (q2 rfl (h1.1.on hp) (.inr h1.2))
   exact ⟨h2.1,fun _ => m1 rfl h2.2⟩
 · rename_i h15
   have h2 := (h.tr h1.1).put (i := ⟨27,0,0,p,m'.nx,ix x.Args 1,0,[]⟩) (q3 rfl (h1.1.on hp) (.inr h1.2) (h1.1.on (ho.elim (fun h => absurd h h15) (fun h => h.2))))
   exact ⟨h2.1,fun h => absurd h h15⟩
theorem QG.ins {x : D.Ins} {n : Int} (h : QG S m m') (hg : gI n x) (hA : ∀ a ∈ x.Args,Wq S m' a) : QG S m (insQ x m') ∧ ∀ r ∈ makes3 x,r ∈ (insQ x m').l.flatMap makesM := by
 obtain ⟨g1,g2,g3,g4,g5,g6⟩ := hg
 have e1 : x.Op ≠ 16 → x.Op ≠ 18 → makes3 x = [x.Dst] := fun h1 h2 => by unfold makes3; rw [if_neg h1,if_neg h2]
 have e2 : ∀ {l : List Int},x.Op ≠ 16 → x.Op ≠ 18 → x.Dst ∈ l → ∀ r ∈ makes3 x,r ∈ l := fun h1 h2 h3 r hr => by rw [e1 h1 h2] at hr; simp at hr; subst hr; exact h3
 unfold insQ
 split
 · have h1 := QG.word (r := x.Dst) (x := x.Imm) h
   exact ⟨h1.1,e2 (by omega) (by omega) h1.2⟩
 split
 · rename_i h1
   have hl : 1 ≤ x.Args.length := by omega
   have h2 := (QG.rf h.g).cop (hA (ix x.Args 0) (ix_mem (by omega)))
   have h3 := QG.mem2 (x := x) (h.tr h2.1) (by
     rcases h1 with h1 | h1
     · exact .inl h1
     · exact .inr ⟨h1,h2.1.on (hA _ (ix_mem (by omega)))⟩) h2.2
   refine ⟨h3.1,?_⟩
   rcases h1 with h1 | h1
   · exact e2 (by omega) (by omega) (h3.2 h1)
   · intro r hr; unfold makes3 at hr; rw [if_pos h1] at hr; cases hr
 split
 · have h2 := h.put (i := ⟨28,x.Dst,0,0,0,0,x.Imm,x.Args⟩) hA
   exact ⟨h2.1,e2 (by omega) (by omega) (m1 rfl h2.2)⟩
 split
 · rename_i h18
   have hl : 2 ≤ x.Args.length := by omega
   have h2 := h.put (i := ⟨29,x.Dst,x.Two,ix x.Args 0,ix x.Args 1,0,0,[]⟩) (q2 rfl (hA _ (ix_mem (by omega))) (hA _ (ix_mem (by omega))))
   refine ⟨h2.1,fun r hr => h2.2 r ?_⟩
   unfold makes3 at hr; rw [if_neg (by omega),if_pos h18] at hr; exact hr
 · have hl : 2 ≤ x.Args.length := by omega
   have h2 := h.two (x := x) (by omega) (hA _ (ix_mem (by omega))) (hA _ (ix_mem (by omega)))
   exact ⟨h2.1,e2 (by omega) (by omega) h2.2⟩
theorem QG.inss {n : Int} : ∀ (l : List D.Ins) (T : Int → Prop) (m m' : Mq),QG S m m' → (∀ r,T r → Wq S m' r) → gIn T l → (∀ i ∈ l,gI n i) → QG S m (insQs l m') ∧ ∀ r ∈ l.flatMap makes3,r ∈ (insQs l m').l.flatMap makesM
 | [],_,_,_,h,_,_,_ => ⟨h,fun r hr => by cases hr⟩
 | x :: l,T,m,m',h,hT,hG,hg => by
   have h1 := (QG.rf h.g).ins (hg x (by simp)) (fun a ha => by
     rcases hG 0 (by simp) a (by rw [ix_zero]; exact ha) with h2 | h2
     · exact hT a h2
     · cases h2)
   obtain ⟨a,b⟩ := QG.inss l (fun r => T r ∨ r ∈ makes3 x) (insQ x m') (insQ x m') (QG.rf h1.1.g) (fun r hr => hr.elim (fun h => h1.1.on (hT r h)) (fun h => .inr (h1.2 r h))) (fun k hk r hr => by
     rcases hG (k + 1) (by simpa using hk) r (by rw [ix_cons]; exact hr) with h2 | h2
     · exact .inl (.inl h2)
     · rw [List.take_succ_cons,List.flatMap_cons] at h2
       rcases List.mem_append.1 h2 with h3 | h3
       · exact .inl (.inr h3)
       · exact .inr h3) (fun i hi => hg i (by simp [hi]))
   rw [insQs]
   refine ⟨h.tr (h1.1.tr a),fun r hr => ?_⟩
   rw [List.flatMap_cons] at hr
   rcases List.mem_append.1 hr with h2 | h2
   · exact a.up r (h1.2 r h2)
   · exact b r h2
theorem QG.en {t : D.Term} {n : Int} (h : QG S m m') (hg : gT n t) (hA : ∀ a ∈ t.Args,Wq S m' a) : QG S m (endQ t m') ∧ ∀ r ∈ nM9 (endV t m'),Wq S (endQ t m') r := by
 obtain ⟨g1,_,g2,g3,g4,g5⟩ := hg
 by_cases h2 : t.Kind = 2
 · have hA0 := hA (ix t.Args 0) (ix_mem (by have := (g3 h2).2; omega))
   unfold endQ
   rw [if_pos h2]
   by_cases hk : 1 < takeQV 4 m'
   · have e : endV t m' = ⟨2,ix t.Args 0,0,t.To,t.Imm⟩ := by unfold endV; rw [if_neg (by omega),if_pos h2,if_pos hk]
     rw [if_pos hk,e]
     exact ⟨h.same rfl,fun r hr => by simp [nM9] at hr; subst hr; exact hA0⟩
   · have h0 : QG S m' (tempQ (takeQ m')) := ⟨h.g,fun _ h => h⟩
     have h1 := QG.word (r := m'.nx) (x := 0) h0
     rw [if_neg hk]
     refine ⟨h.tr h1.1,fun r hr => ?_⟩
     have : r = m'.nx ∨ r = ix t.Args 0 := by
       unfold endV at hr
       rw [if_neg (by omega),if_pos h2,if_neg hk] at hr
       split at hr <;> simpa [nM9] using hr
     rcases this with rfl | rfl
     · exact .inr h1.2
     · exact h1.1.on hA0
 · by_cases h4 : t.Kind = 4 ∧ t.Args.length ≠ 0
   · have h1 := (QG.rf h.g).cop (hA (ix t.Args 0) (ix_mem (by omega)))
     unfold endQ
     rw [if_neg h2,if_pos h4]
     refine ⟨h.tr h1.1,fun r hr => ?_⟩
     unfold endV at hr
     rw [if_neg (by omega),if_neg h2,if_neg (by omega),if_pos h4.1,if_neg h4.2] at hr
     have : r = copV (ix t.Args 0) m' := by unfold nM9 at hr; split at hr; (· simpa using hr); rw [if_neg (by dsimp only; omega)] at hr; cases hr
     subst this; exact h1.2
   · unfold endQ
     rw [if_neg h2,if_neg h4]
     refine ⟨h,fun r hr => ?_⟩
     unfold endV at hr
     rw [if_neg h2] at hr
     split at hr
     · simp [nM9] at hr
     split at hr
     · rename_i h11
       simp [nM9] at hr; subst hr; exact hA _ (ix_mem (by have := g4 h11; omega))
     split at hr
     · rename_i h12
       rw [if_pos (by omega)] at hr
       simp [nM9] at hr
     · simp [nM9] at hr
end
structure MV (S : Int → Prop) (x : D.Block) (y : D.MBlock) : Prop where
 g : gQ S y.Ins
 en : ∀ r ∈ nM9 y.End,S r ∨ r ∈ y.Ins.flatMap makesM
 ms : ∀ r ∈ x.Ins.flatMap makes3,r ∈ y.Ins.flatMap makesM
theorem ofQ_dom {n : Int} : ∀ (l : List D.Block) (m : Mq),(∀ x ∈ l,gB n x ∧ x.Term.Kind ≠ 0) → ∀ j,j < l.length → ∀ S : Int → Prop,gIn S (ix l j).Ins → (∀ r ∈ (ix l j).Term.Args,S r ∨ r ∈ (ix l j).Ins.flatMap makes3) → MV S (ix l j) (ix (ofQ l m) j)
 | [],_,_,j,hj => by cases hj
 | x :: l,m,hg,j,hj => by
   rw [ofQ]
   cases j with
   | zero =>
     rw [ix_zero,ix_zero]
     intro S h1 h2
     obtain ⟨g1,g2⟩ := hg x (by simp)
     have h0 : gQ S (resQ m).l := fun k hk => by cases hk
     obtain ⟨a,b⟩ := QG.inss x.Ins S (resQ m) (resQ m) (QG.rf h0) (fun r hr => .inl hr) h1 g1.1
     have h3 := (QG.rf a.g).en (g1.2.2.1.resolve_left g2) (fun r hr => (h2 r hr).imp id (b r))
     exact ⟨h3.1.g,fun r hr => h3.2 r hr,fun r hr => h3.1.up r (b r hr)⟩
   | succ j => rw [ix_cons,ix_cons]; exact ofQ_dom l _ (fun y hy => hg y (by simp [hy])) j (by simpa using hj)
theorem bk_use {r : Int} : ∀ {l : List D.Mach} {o : Bool},bkB r l o = true → (∃ k,k < l.length ∧ r ∈ takesM (ix l k) ∧ r ∉ (l.take k).flatMap makesM) ∨ (o = true ∧ r ∉ l.flatMap makesM)
 | [],o,h => .inr ⟨h,by simp⟩
 | i :: l,o,h => by
   rw [bkB] at h
   split at h
   · rename_i h1; exact .inl ⟨0,by simp,by rw [ix_zero]; exact h1,by simp⟩
   · split at h
     · cases h
     · rename_i h1 h2
       rcases bk_use h with ⟨k,h3,h4,h5⟩ | ⟨h3,h4⟩
       · refine .inl ⟨k + 1,by simp; omega,by rw [ix_cons]; exact h4,?_⟩
         rw [List.take_succ_cons,List.flatMap_cons,List.mem_append,not_or]; exact ⟨h2,h5⟩
       · exact .inr ⟨h3,by rw [List.flatMap_cons,List.mem_append,not_or]; exact ⟨h2,h4⟩⟩
theorem back_use {S : Int → Prop} {x : D.Block} {y : D.MBlock} (h : MV S x y) {r : Int} {o : Bool} (hb : backB y 0 r o = true) : S r ∨ (o = true ∧ r ∉ y.Ins.flatMap makesM) := by
 unfold backB at hb
 rw [List.drop_zero] at hb
 rcases bk_use hb with ⟨k,h1,h2,h3⟩ | ⟨h1,h2⟩
 · exact .inl ((h.g k h1 r h2).resolve_right h3)
 · rw [Bool.or_eq_true,decide_eq_true_eq] at h1
   rcases h1 with h1 | h1
   · exact .inr ⟨h1,h2⟩
   · exact .inl ((h.en r h1).resolve_right h2)
section
variable {s : List Int}
theorem made7_dom (s : List Int) : ∀ j,j < (mdN s).toNat → MV (fun r => Vo (mdN s).toNat (mdT s).1 (made3 s).Params (made3 s).Blocks j r ∨ r ∈ (ix (made3 s).Blocks j).Phis.map (fun p => p.Dst)) (ix (made3 s).Blocks j) (ix (made7 s).Blocks j) := fun j hj => by
 obtain ⟨nx,h⟩ := made3_right s
 have v := made3_dom s
 refine ofQ_dom (n := nx) (made3 s).Blocks _ (fun x hx => ?_) j (by rw [h.len]; exact hj) _ (v.gd j hj) (fun r hr => (v.tm j hj r hr).split)
 obtain ⟨i,hi,e⟩ := List.getElem_of_mem hx
 have e2 : ix (made3 s).Blocks i = x := by rw [ix_eq hi]; exact e
 rw [← e2]
 exact ⟨h.blk i (by rw [← h.len]; exact hi),h.kd i (by rw [← h.len]; exact hi)⟩
theorem vo_to {n : Nat} {to : List (List Int)} {par : Int} {bs : List D.Block} {b t : Nat} {r : Int} (ht : (t : Int) ∈ ix to b) (h1 : 1 ≤ t ∧ t < n) (h : Vo n to par bs t r) : Vs n to par bs b r := by
 rcases h with h | ⟨a,h2,⟨h3,h4⟩,h5⟩
 · exact .inl h
 · refine .inr ⟨a,h2,.inr fun h6 => h4 ?_,h5⟩
   have := RA.step h6 ht (by omega) (by omega) (by omega)
   simpa using this
theorem lo_vs (hw : WL (made7 s).Blocks) {b : Nat} {r : Int} (h : LO (made7 s).Blocks b r) : b < (mdN s).toNat → Vs (mdN s).toNat (mdT s).1 (made3 s).Params (made3 s).Blocks b r := by
 obtain ⟨nx,h3,hl,_,hb⟩ := made7_mb s
 have v := made3_dom s
 have edge : ∀ {b : Nat} {to : Int},b < (mdN s).toNat → to ∈ (ix (made7 s).Blocks b).End.To → ((to.toNat : Nat) : Int) ∈ ix (mdT s).1 b ∧ 1 ≤ to.toNat ∧ to.toNat < (mdN s).toNat := fun {b to} hj ht => by
   have h1 := hw.to b (by rw [hl]; exact hj) to ht
   rw [hl] at h1
   rw [(hb b hj).to,h3.tos b hj] at ht
   rw [show ((to.toNat : Nat) : Int) = to by omega]
   exact ⟨ht,by omega⟩
 have phs : ∀ {j : Nat},j < (mdN s).toNat → dsts (ix (made7 s).Blocks j) = (ix (made3 s).Blocks j).Phis.map (fun p => p.Dst) := fun {j} hj => by unfold dsts; rw [(hb j hj).ph]
 induction h with
 | @phi b to r ht h1 =>
   intro hj
   obtain ⟨e1,e2⟩ := edge hj ht
   obtain ⟨p,hp,h4⟩ := List.mem_flatMap.1 h1
   obtain ⟨y,hy,e⟩ := List.mem_map.1 h4
   obtain ⟨h5,h6⟩ := List.mem_filter.1 hy
   rw [(hb _ e2.2).ph] at hp
   have := v.ph _ e2.2 p hp y h5
   have h7 : y.From = (b : Int) := by simpa using h6
   rw [h7,e,Int.toNat_natCast] at this
   exact this.2
 | @gen b to r ht h1 h2 =>
   intro hj
   obtain ⟨e1,e2⟩ := edge hj ht
   rw [phs e2.2] at h1
   rcases back_use (made7_dom s _ e2.2) h2 with h4 | h4
   · exact vo_to e1 e2 (h4.resolve_right h1)
   · cases h4.1
 | @thru b to r ht h1 h2 _ ih =>
   intro hj
   obtain ⟨e1,e2⟩ := edge hj ht
   rw [phs e2.2] at h1
   have hm := made7_dom s _ e2.2
   rcases back_use hm h2 with h4 | h4
   · exact vo_to e1 e2 (h4.resolve_right h1)
   · rcases (ih e2.2).split with h5 | h5
     · exact vo_to e1 e2 (h5.resolve_right h1)
     · exact absurd (hm.ms r h5) h4.2
theorem made7_live (s : List Int) : ∀ r ∈ atE (made7 s).Blocks 0 0,0 ≤ r ∧ r < (made7 s).Params := fun r hr => by
 obtain ⟨nx,h3,hl,_,hb⟩ := made7_mb s
 have hw := right_wl (made7_right s)
 have h1 := h3.n1
 have h0 : 0 < (mdN s).toNat := by omega
 have hm := made7_dom s 0 h0
 have key : Vo (mdN s).toNat (mdT s).1 (made3 s).Params (made3 s).Blocks 0 r ∨ r ∈ (ix (made3 s).Blocks 0).Phis.map (fun p => p.Dst) → 0 ≤ r ∧ r < (made7 s).Params := fun h => by
   rcases h with h | h
   · rcases h with h | ⟨a,h2,⟨h4,h5⟩,_⟩
     · exact h
     · exact absurd (RA.zero h4) h5
   · rw [h3.ph0] at h; cases h
 unfold atE at hr
 have hr := sAt_back.1 hr
 rcases back_use hm hr with h4 | h4
 · exact key h4
 · have h5 : r ∈ ix (loE (made7 s).Blocks) 0 := by simpa using h4.1
   rcases (lo_vs hw ((loE_mem hw (by rw [hl]; exact h0)).1 h5) h0).split with h6 | h6
   · exact key h6
   · exact absurd (hm.ms r h6) h4.2
end
theorem not_has {m : D.MFunc} (hr : rightM m = true) {r : Int} (h : r ∉ regsM m) : ∀ x ∈ preP m m.Blocks.length 0,r ∉ hasE m x.1 x.2 := fun x hx h9 => by
 have hx' := preP_in (m := m) x hx
 exact h (regs_mem.2 ⟨(has_ok hr hx'.1 hx'.2).g r h9,has_regs hr hx'.1 hx'.2 h9⟩)
theorem none_ranges {m : D.MFunc} (hr : rightM m = true) {r : Int} (h : r ∉ regsM m) : rangesM m r = [] := by
 unfold rangesM stM
 rw [if_pos hr]
 have : ∀ (q : List (Nat × Nat)) (k : Nat),(∀ x ∈ q,r ∉ hasE m x.1 x.2) → (q.zipIdx k).foldl (fun s x => rngS r s x.2 (hasE m x.1.1 x.1.2)) [] = [] := by
   intro q
   induction q with
   | nil => intro k _; rfl
   | cons x q ih =>
     intro k hq
     rw [List.zipIdx_cons,List.foldl_cons]
     have h1 : rngS r [] k (hasE m x.1 x.2) = [] := by unfold rngS; rw [if_neg (hq x (by simp))]
     rw [h1]; exact ih _ (fun y hy => hq y (by simp [hy]))
 exact this _ 0 (not_has hr h)
theorem none_tog {m : D.MFunc} (hr : rightM m = true) {r x : Int} (h : r ∉ regsM m) : togM m r x = false := by
 rw [togM_any hr,List.any_eq_false]
 intro y hy
 rw [decide_eq_false (not_has hr h y hy)]; simp
theorem none_all {m : D.MFunc} (hr : rightM m = true) {r x : Int} : (!hasL (regsM m) r && (decide (0 < ((rangesM m r).length : Int)) || (togM m r x || togM m r r))) = false := by
 unfold hasL
 by_cases h : r ∈ regsM m
 · simp [h]
 · rw [none_ranges hr h,none_tog hr h,none_tog hr h]; simp
theorem bad_wrong {bs : List D.MBlock} : rightM ⟨-1,bs⟩ = false := by
 unfold rightM funcM; rw [if_pos (by dsimp only; omega)]; rfl
section
variable {bs : List D.MBlock}
theorem bad_i : (setsI ⟨-1,bs⟩).length = 0 := by unfold setsI; rw [bad_wrong]; rfl
theorem bad_o : (setsO ⟨-1,bs⟩).length = 0 := by unfold setsO; rw [bad_wrong]; rfl
theorem bad_there {b p : Int} : thereM ⟨-1,bs⟩ b p = false := by unfold thereM; rw [bad_wrong]; rfl
theorem bad_at {b p : Int} : (atM ⟨-1,bs⟩ b p).length = 0 := by unfold atM; rw [bad_there]; rfl
theorem bad_num {b p : Int} : numM ⟨-1,bs⟩ b p = -1 := by unfold numM; rw [bad_there]; rfl
theorem bad_ranges {r : Int} : (rangesM ⟨-1,bs⟩ r).length = 0 := by unfold rangesM; rw [bad_wrong]; rfl
theorem bad_tog {r x : Int} : togM ⟨-1,bs⟩ r x = false := by unfold togM; rw [bad_wrong]; rfl
theorem bad_most : mostM ⟨-1,bs⟩ = 0 := by unfold mostM; rw [bad_wrong]; rfl
end
theorem begins_par {s : List Int} {i : Nat} (h : i < (ix (setsI (made10 s)) 0).length) : 0 ≤ ix (ix (setsI (made10 s)) 0) i ∧ ix (ix (setsI (made10 s)) 0) i < (made10 s).Params := by
 have hr : rightM (made10 s) = true := by unfold made10; exact made7_right _
 have h0 := (right_wf hr).n0
 have e := setsI_ix hr (b := 0) (by omega)
 rw [e] at h ⊢
 exact made7_live _ _ (ix_mem h)
theorem E11 : Ent Tryz.prog 11 := ⟨_,Tryz.func11,by kernel_rfl,by kernel_rfl⟩
theorem E12 : Ent Tryz.prog 12 := ⟨_,Tryz.func12,by kernel_rfl,by kernel_rfl⟩
set_option maxRecDepth 8000
attribute [local irreducible] made10
end Go.Proofs.YtehhjlkmbdhckaaGreat
namespace Go.JE
variable {P : Program} {D Ds : List Dt} {L M Ls : List Res} {e : Env} {X : Cx} {n : Fs} {w0 : World} {Q : Exit → Act → World → Prop} {FS : PH}
variable {ops : Array Oper} {op : Op} {d : Nat} {ty : TypeId} {pos : String} {af : Array Edge} {rest l : List Oper} {z : Bool} {is : Od} {i : Nat}
end Go.JE
namespace Go.Proofs.YtehhjlkmbdhckaaGreat
open Go.JE
theorem E25 : Ent Tryz.prog 25 := ⟨_,Tryz.func25,by kernel_rfl,by kernel_rfl⟩
theorem E28 : Ent Tryz.prog 28 := ⟨_,Tryz.func28,by kernel_rfl,by kernel_rfl⟩
set_option maxRecDepth 8000
attribute [local irreducible] made10 setsI setsO atM numM rangesM togM mostM
set_option maxRecDepth 20000 in
set_option maxHeartbeats 4000000 in
theorem liveNone_ct {a0 : Value} {s : List Int} {N0 : Nat} (r : Int) (z0 z1 : Int) (wz0 : IntKind.i64.wrap z0 = z0) (wz1 : IntKind.i64.wrap z1 = z1) : Tv Tryz.prog 9 #[a0,.int .i64 r,.agg #[.int .i64 z0,.int .i64 z1]] [dv (rLn N0 (rI .i64)) a0 s] [] (.bool true) := by
 refine jenter (args := [a0,.int .i64 r,.agg #[.int .i64 z0,.int .i64 z1]]) Tryz.func9 rfl rfl rfl fun w0 X => ?_
 have hr : rightM (made10 s) = true := by unfold made10; exact made7_right _
 refine jq (jr (jbox Z Z fun g5 => ja Z (jn (jx (jq (jr (jcv E11 Z Z shown_ct dn kn (ja Z (jn (jx ?_))))))))))
 refine jq (jr (jm Z (jdq d0 fun q1 w1 => jcs E12 Z Z made10_ct (dc d0 dn) kn fun c17 => ?_)))
 have hbp : ∀ i,i < (ix (setsI (made10 s)) 0).length → 0 ≤ ix (ix (setsI (made10 s)) 0) i ∧ ix (ix (setsI (made10 s)) 0) i < (made10 s).Params := fun i h => begins_par h
 generalize hma : made10 s = ma at hr hbp ⊢
 have hn0 := (right_wf hr).n0
 have hsI := setsI_len hr
 refine jalc J28 Z fun g8 => jdq (rMFunc.cB d0) fun q3 w3 => jsta k0 Z28 Z Z Z ⟨Z,w3.one,trivial⟩ (saf Z) (jn (jx (jq (jr (js (jla k0 A28 Z28 Z Z Z) (jc E25 Z Z sets_ct (dc d0 dn) kn (fun _ => p2) (fun _ => p0) fun c20 => jm Z (js (jex' Z Z) (js (jex' Z Z) ?_))))))))
 refine ja Z (ja Z (jn (jx (jq (jq (jr (jm Z (jdq d0 fun q6 w6 => js (jln U52 d0 Z) (js (jf F28_1 Z) (js (jl k0 O26 Z Z) ?_))))))))))
 refine js (jln U26 (rMFunc.cB d2) Z) (js (jneq Z Z) ?_)
 rw [show (!decide (((List.length (setsI ma) : Nat) : Int) = ((List.length ma.Blocks : Nat) : Int))) = false from by rw [hsI]; simp]
 refine jn (jx ?_)
 refine jif Z (fun hc1 => ?_) (fun hc1 => ?_)
 exact absurd hc1 (by simp)
 refine jsk (jx (jq (jq (jr (ja Z (jn (jx (jb ?_))))))))
 refine jlp (fun (i : Nat) => ⟨i ≤ (ix (setsI ma) 0).length,[dv (rL (rL (rI .i64))) c20.1 (setsI ma),da rMFunc (vMFunc ma c17) ma],[bx g8 28 [.int .i64 ma.Params,c17],bx g5 24 [.int .i64 z0,.int .i64 z1]],[(1,.int .i64 r),(5,.pointer (some ⟨g5,0,none⟩)),(7,.bool true),(8,.pointer (some ⟨g8,0,none⟩)),(9,c20.1),(11,.int .i64 (↑i))],(ix (setsI ma) 0).length - i⟩) 0 (by omega) (dc d0 (dc d2 dn)) (kd kn) ⟨Z,Z,Z,Z,Z,eqI (by omega),trivial⟩ ?_
 rintro i; dsimp only; rintro hi
 refine jq (jq (jr (jm Z (jm Z (js (jix (i := 0) U52 Z22 d0 Z Z Z (by omega)) (jev (jlV (dix d0 0 (by omega)) O22 Z Z) fun v32 q7 w7 => js (jln U22 d0 Z) (js (jlss Z Z) (jn (jx ?_)))))))))
 refine jif Z (fun hc2 => ?_) (fun hc2 => ?_)
 have hb9 := hbp i (by omega)
 refine jsk (jx (jq (jb (jq (jstl Mixed (by kernel_rfl) (jt (jmv Z) (jt (jix (i := 0) U52 Z22 d1 Z Z Z (by omega)) (jtv (jlV (dix d1 0 (by omega)) O22 Z Z) fun v39 q9 w9 => jt (jmv Z) (jt (jix U22 Z3 d0 Z Z Z (by omega)) (jt (jlI (dix d0 i (by omega)) O3 Z) ?_))))))))))
 refine jt (jlss Z Z) (jt (jmv Z) (jtg Z Z (.f _) (fun hg => jmv Z) (jtg Z Z (.f _) (fun hg => jix (i := 0) U52 Z22 d2 (evg Z hg) Z Z (by first | omega | (simp at hg; omega) | (simp only [List.length_set]; omega))) (jtge (q := fun v => dv (rL (rI .i64)) v (ix (setsI ma) 0)) Z Z (.f _) (fun hg => jlV (dix d2 0 (by first | omega | (simp at hg; omega) | (simp only [List.length_set]; omega))) O22 Z (evg Z hg)) fun v47 => jtg Z Z (.f _) (fun hg => jmv Z) (jtg Z Z (.f _) (fun hg => jix U22 Z3 (d0.on hg) (evg Z hg) (evg Z hg) Z (by first | omega | (simp at hg; omega) | (simp only [List.length_set]; omega))) (jtg Z Z (.f _) (fun hg => jlI (dix (d0.on hg) i (by first | omega | (simp at hg; omega) | (simp only [List.length_set]; omega))) O3 (evg Z hg)) (jtg Z Z (.f _) (fun hg => jf F28_0 Z) (jtg Z Z (.f _) (fun hg => jl k0 O3 (evg Z hg) Z) (jtg Z Z (.f _) (fun hg => jgeq (evg Z hg) (evg Z hg)) (jt (jor Z Z) ?_))))))))))
 rw [show ((decide (ix (ix (setsI ma) 0) i < 0)) || (decide (ma.Params ≤ ix (ix (setsI ma) 0) i))) = false from by simp; omega]
 refine jdn (jx ?_)
 refine jif Z (fun hc3 => ?_) (fun hc3 => ?_)
 exact absurd hc3 (by simp)
 refine jsk (jbn (jx (jr (jm Z (js (jadd Z Z (by omega)) (ja Z (jn ?_)))))))
 exact jag (i + 1) (by omega) (dc d3 (dc d4 dn)) (kd kn) ⟨Z,Z,Z,Z,Z,eqI (by omega),trivial⟩
 refine jex (jtx (jtx (jbh (jx (jq (jq (jr (js (jla k0 A28 Z28 Z Z Z) (jcd E20 Z Z (regs_ct hr) (dc d2 dn) kn fun v56 q12 w12 => jm Z (jcv E28 Z Z (lawIn_ct r) (dc d0 dn) kn ?_))))))))))
 refine js (jnot Z) (jm Z (jg Z Z (.t _) (fun hg => jla k0 A28 Z28 Z Z Z) (jg Z Z (.t _) (fun hg => jmv Z) (jgcd Z Z (.t _) E21 Z (fun hg => evl2 (evg Z hg) (evg Z hg)) (fun hg => (ranges_ct r)) (fun hg => (dc d3 dn)) fun v63 => jg Z Z (.t _) (fun hg => jln U44 (d0.on hg) (evg Z hg)) (jg Z Z (.t _) (fun hg => jgtr (evg Z hg) Z) (jg Z Z (.t _) (fun hg => jmv (evg Z hg)) (jg Z Z (.gf _ _) (fun hg => jla k0 A28 Z28 Z Z Z) (jg Z Z (.gf _ _) (fun hg => jmv Z) (jgc Z Z (.gf _ _) E22 Z (fun hg => evl3 (evg Z hg) (evg Z hg) Z) (fun hg => (together_ct r 0)) (fun hg => (dc d4 dn)) kn p0 (jg Z Z (.t _) (fun hg => jor2 hg Z Z) ?_))))))))))
 refine jg Z Z (.t _) (fun hg => jmv (evg Z hg)) (jg Z Z (.gf _ _) (fun hg => jla k0 A28 Z28 Z Z Z) (jg Z Z (.gf _ _) (fun hg => jmv Z) (jg Z Z (.gf _ _) (fun hg => jmv Z) (jgc Z Z (.gf _ _) E22 Z (fun hg => evl3 (evg Z hg) (evg Z hg) (evg Z hg)) (fun hg => (together_ct r r)) (fun hg => (dc d4 dn)) kn p0 (jg Z Z (.t _) (fun hg => jor2 hg Z Z) (js (jand Z Z) ?_))))))
 rw [show ((!(hasL (regsM ma) r)) && (((decide (0 < ((List.length (rangesM ma r) : Nat) : Int))) || (togM ma r 0)) || (togM ma r r))) = false from by rw [Bool.or_assoc]; exact none_all hr]
 refine jn (jx ?_)
 refine jif Z (fun hc4 => ?_) (fun hc4 => ?_)
 exact absurd hc4 (by simp)
 refine jsk (jx (jq (jr (js (jla k0 A28 Z28 Z Z Z) (jalc J28 Z fun g12 => jsta k0 Z28 Z Z Z ⟨Z,w3.one,trivial⟩ (saf Z) (jn (jx (jq (jr (js (jf F28_0 Z) ?_))))))))))
 refine jst k0 Z3 Z Z Z s0 (jn (jx (jq (jr (js (jla k0 A28 Z28 Z Z Z) (jc E25 Z Z (sets_ct (a0 := c17) (m := ⟨(-1),ma.Blocks⟩)) (dc (rMFunc.M (m := ⟨(-1),ma.Blocks⟩) (c := c17) (rMFunc.cB (m := ma) (c := c17) d4) (wl (-1))) dn) kn (fun _ => p2) (fun _ => p0) fun c82 => jm Z (js (jex' Z Z) (js (jex' Z Z) (ja Z (ja Z ?_))))))))))
 refine jn (jx (jq (jr (jm Z (jm Z (jk Z Z (.t _) (jmv Z) (jdq d0 fun q17 w17 => jk Z Z (.t _) (jln U52 d0 Z) (jk Z Z (.t _) (jeql Z Z) ?_))))))))
 rw [show (decide (((List.length (setsI (⟨(-1),ma.Blocks⟩)) : Nat) : Int) = 0)) = true from by rw [bad_i]; rfl]
 refine js (jand Z Z) (jm Z (jk Z Z (.t _) (jmv Z) (jdq d1 fun q18 w18 => jk Z Z (.t _) (jln U52 d1 Z) (jk Z Z (.t _) (jeql Z Z) ?_))))
 rw [show (decide (((List.length (setsO (⟨(-1),ma.Blocks⟩)) : Nat) : Int) = 0)) = true from by rw [bad_o]; rfl]
 refine js (jand Z Z) (jm Z (jk Z Z (.t _) (jla k0 A28 Z28 Z Z Z) (jk Z Z (.t _) (jixa (i := 0) U24 Z3 Z Z Z (by omega)) (jk Z Z (.t _) (jl k2 O3 Z Z) (jk Z Z (.t _) (jixa (i := 1) U24 Z3 Z Z Z (by omega)) (jk Z Z (.t _) (jl k2 O3 Z Z) (jgk Z Z (.t _) (jcd E18 Z Z (at_ct (a0 := c17) (m := ⟨(-1),ma.Blocks⟩) z0 z1) (dc (rMFunc.M (m := ⟨(-1),ma.Blocks⟩) (c := c17) (rMFunc.cB (m := ma) (c := c17) d6) (wl (-1))) dn) kn fun v102 q19 w19 => jk Z Z (.t _) (jln U22 d0 Z) (jk Z Z (.t _) (jeql Z Z) ?_)))))))))
 rw [show (decide (((List.length (atM (⟨(-1),ma.Blocks⟩) z0 z1) : Nat) : Int) = 0)) = true from by rw [bad_at]; rfl]
 refine js (jand Z Z) (jm Z (jk Z Z (.t _) (jla k0 A28 Z28 Z Z Z) (jk Z Z (.t _) (jixa (i := 0) U24 Z3 Z Z Z (by omega)) (jk Z Z (.t _) (jl k2 O3 Z Z) (jk Z Z (.t _) (jixa (i := 1) U24 Z3 Z Z Z (by omega)) (jk Z Z (.t _) (jl k2 O3 Z Z) (jgk Z Z (.t _) (jcv E15 Z Z (number_ct (a0 := c17) (m := ⟨(-1),ma.Blocks⟩) z0 z1) (dc (rMFunc.M (m := ⟨(-1),ma.Blocks⟩) (c := c17) (rMFunc.cB (m := ma) (c := c17) d7) (wl (-1))) dn) kn (jk Z Z (.t _) (jeql Z Z) ?_)))))))))
 rw [show (decide (numM (⟨(-1),ma.Blocks⟩) z0 z1 = (-1))) = true from by rw [bad_num]; rfl]
 refine js (jand Z Z) (jm Z (jk Z Z (.t _) (jla k0 A28 Z28 Z Z Z) (jk Z Z (.t _) (jmv Z) (jgk Z Z (.t _) (jcd E21 Z Z (ranges_ct (a0 := c17) (m := ⟨(-1),ma.Blocks⟩) r) (dc (rMFunc.M (m := ⟨(-1),ma.Blocks⟩) (c := c17) (rMFunc.cB (m := ma) (c := c17) d7) (wl (-1))) dn) kn fun v118 q21 w21 => jk Z Z (.t _) (jln U44 d0 Z) (jk Z Z (.t _) (jeql Z Z) ?_))))))
 rw [show (decide (((List.length (rangesM (⟨(-1),ma.Blocks⟩) r) : Nat) : Int) = 0)) = true from by rw [bad_ranges]; rfl]
 refine js (jand Z Z) (jm Z (jk Z Z (.t _) (jla k0 A28 Z28 Z Z Z) (jk Z Z (.t _) (jmv Z) (jk Z Z (.t _) (jmv Z) (jgk Z Z (.t _) (jcv E22 Z Z (together_ct (a0 := c17) (m := ⟨(-1),ma.Blocks⟩) r r) (dc (rMFunc.M (m := ⟨(-1),ma.Blocks⟩) (c := c17) (rMFunc.cB (m := ma) (c := c17) d8) (wl (-1))) dn) kn (jk Z Z (.t _) (jnot Z) ?_)))))))
 rw [show (!(togM (⟨(-1),ma.Blocks⟩) r r)) = true from by rw [bad_tog]; rfl]
 refine js (jand Z Z) (jm Z (jk Z Z (.t _) (jla k0 A28 Z28 Z Z Z) (jgk Z Z (.t _) (jcv E24 Z Z (most_ct (a0 := c17) (m := ⟨(-1),ma.Blocks⟩)) (dc (rMFunc.M (m := ⟨(-1),ma.Blocks⟩) (c := c17) (rMFunc.cB (m := ma) (c := c17) d8) (wl (-1))) dn) kn (jk Z Z (.t _) (jeql Z Z) ?_)))))
 rw [show (decide (mostM (⟨(-1),ma.Blocks⟩) = 0)) = true from by rw [bad_most]; rfl]
 refine js (jand Z Z) (ja Z (jn (jx (jrt ?_))))
 exact jrB Z Z (by rfl)
end Go.Proofs.YtehhjlkmbdhckaaGreat
