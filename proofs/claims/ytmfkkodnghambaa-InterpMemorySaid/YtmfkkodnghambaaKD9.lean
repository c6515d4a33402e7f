/- Lemmas that the claim is made of. Conditions: each lemma names its own. -/
import Derived.Test.YtmfkkodnghambaaKD8
set_option linter.unusedSectionVars false
set_option linter.unusedSimpArgs false
set_option linter.unusedVariables false
namespace Go.Proofs.Ytmfkkodnghambaa
open Go.JE
theorem addr_back {at' imm : Int} (h : IntKind.i32.wrap at' = at') : w32 (IntKind.i32.wrap (at' - imm) + imm) = at' := by
 rw [w32,IntKind.wrap_i32] at *; rw [IntKind.wrap_i32]; omega
theorem memo_good {imm : Int} : GoodF (one3 2 [⟨16,0,0,[0,1],imm⟩,⟨15,2,0,[0],imm⟩] (ret3 2)) := by
 refine good_one (by decide) (show 2 ≤ 4000 by decide) (show [(2 : Int)].Nodup by decide) (show ∀ r ∈ [(2 : Int)],2 ≤ r ∧ r ≤ 8191 by decide) (fun i hi => ?_) (by decide) (fun k hk v hv => ?_) (fun v hv => ?_)
 · simp at hi
   rcases hi with rfl | rfl
   · exact ⟨⟨show (1 : Int) ≤ 16 by decide,show (16 : Int) ≤ 18 by decide⟩,show (2 : Int) ≤ 2 by decide,show (2 : Int) ≤ 2 by decide⟩
   · exact ⟨⟨show (1 : Int) ≤ 15 by decide,show (15 : Int) ≤ 18 by decide⟩,show (1 : Int) ≤ 1 by decide,show (1 : Int) ≤ 1 by decide⟩
 · have hk : k < 2 := hk
   rcases (show k = 0 ∨ k = 1 by omega) with rfl | rfl
   · have : v ∈ [(0 : Int),1] := hv
     simp at this; exact .inl (by omega)
   · have : v ∈ [(0 : Int)] := hv
     simp at this; exact .inl (by omega)
 · have : v ∈ [(2 : Int)] := hv
   exact .inr this
theorem memo_run {at' v imm : Int} {w : List Int} (hw : w.length ≤ 20) (ha : IntKind.i32.wrap at' = at') : runF (one3 2 [⟨16,0,0,[0,1],imm⟩,⟨15,2,0,[0],imm⟩] (ret3 2)) ⟨[IntKind.i32.wrap (at' - imm),v],w,[],9⟩ =
   if 0 ≤ at' ∧ at' < w.length then ⟨1,v,w.set at'.toNat v,[],3⟩ else ⟨2,-2,w,[],1⟩ := by
 have hm : memM (⟨[IntKind.i32.wrap (at' - imm),v],w,[],9⟩ : D.Input) = w := List.take_of_length_le (show w.length ≤ 4096 by omega)
 have hs : startF (one3 2 [⟨16,0,0,[0,1],imm⟩,⟨15,2,0,[0],imm⟩] (ret3 2)) ⟨[IntKind.i32.wrap (at' - imm),v],w,[],9⟩ = ⟨argsV [IntKind.i32.wrap (at' - imm),v] 2,0,0,w,[],0,[]⟩ := by
   show (⟨argsV [IntKind.i32.wrap (at' - imm),v] 2,0,0,memM _,[],0,[]⟩ : RSt) = _
   rw [hm]
 have e1 : insF ⟨16,0,0,[0,1],imm⟩ ⟨argsV [IntKind.i32.wrap (at' - imm),v] 2,0,0,w,[],1,[]⟩ = ⟨argsV [IntKind.i32.wrap (at' - imm),v] 2,if storeOk w at' v = true then 0 else 2,if storeOk w at' v = true then 0 else -2,storeM w at' v,[],1,[]⟩ := by
   have : insF ⟨16,0,0,[0,1],imm⟩ ⟨argsV [IntKind.i32.wrap (at' - imm),v] 2,0,0,w,[],1,[]⟩ = ⟨argsV [IntKind.i32.wrap (at' - imm),v] 2,if (if storeOk w (w32 (IntKind.i32.wrap (at' - imm) + imm)) v = true then (0 : Int) else -2) = 0 then 0 else 2,if (if storeOk w (w32 (IntKind.i32.wrap (at' - imm) + imm)) v = true then (0 : Int) else -2) = 0 then 0 else (if storeOk w (w32 (IntKind.i32.wrap (at' - imm) + imm)) v = true then (0 : Int) else -2),storeM w (w32 (IntKind.i32.wrap (at' - imm) + imm)) v,[],1,[]⟩ := rfl
   rw [this,addr_back ha]
   by_cases h : storeOk w at' v = true
   · simp only [if_pos h,if_pos]
   · simp only [if_neg h]; rfl
 have hn : lisF 9 [⟨16,0,0,[0,1],imm⟩,⟨15,2,0,[0],imm⟩] (startF (one3 2 [⟨16,0,0,[0,1],imm⟩,⟨15,2,0,[0],imm⟩] (ret3 2)) ⟨[IntKind.i32.wrap (at' - imm),v],w,[],9⟩) = lisF 9 [⟨15,2,0,[0],imm⟩] ⟨argsV [IntKind.i32.wrap (at' - imm),v] 2,if storeOk w at' v = true then 0 else 2,if storeOk w at' v = true then 0 else -2,storeM w at' v,[],1,[]⟩ := by
   rw [hs,lis_one rfl (show (0 : Int) < 9 by decide),← e1]; rfl
 by_cases h : 0 ≤ at' ∧ at' < w.length
 · have hk : storeOk w at' v = true := by unfold storeOk loadM; rw [if_neg (by omega)]
   have hst : storeM w at' v = w.set at'.toNat v := by unfold storeM; rw [if_neg (by omega)]
   have hld : loadM (w.set at'.toNat v) at' = (v,true) := by
     unfold loadM; rw [if_neg (by rw [List.length_set]; omega),ix_set (by omega),if_pos rfl]
   rw [if_pos hk,if_pos hk,hst] at hn
   have e2 : lisF 9 [⟨15,2,0,[0],imm⟩] ⟨argsV [IntKind.i32.wrap (at' - imm),v] 2,0,0,w.set at'.toNat v,[],1,[]⟩ = (⟨setV (argsV [IntKind.i32.wrap (at' - imm),v] 2) 2 v,0,0,w.set at'.toNat v,[],2,[]⟩,true) := by
     rw [lis_one rfl (show (1 : Int) < 9 by decide)]
     have : insF ⟨15,2,0,[0],imm⟩ ⟨argsV [IntKind.i32.wrap (at' - imm),v] 2,0,0,w.set at'.toNat v,[],2,[]⟩ = ⟨setV (argsV [IntKind.i32.wrap (at' - imm),v] 2) 2 (loadM (w.set at'.toNat v) (w32 (IntKind.i32.wrap (at' - imm) + imm))).1,if (if (loadM (w.set at'.toNat v) (w32 (IntKind.i32.wrap (at' - imm) + imm))).2 = true then (0 : Int) else -2) = 0 then 0 else 2,if (if (loadM (w.set at'.toNat v) (w32 (IntKind.i32.wrap (at' - imm) + imm))).2 = true then (0 : Int) else -2) = 0 then 0 else (if (loadM (w.set at'.toNat v) (w32 (IntKind.i32.wrap (at' - imm) + imm))).2 = true then (0 : Int) else -2),w.set at'.toNat v,[],2,[]⟩ := rfl
     rw [addr_back ha,hld] at this
     exact congrArg (fun z => (z,true)) this
   rw [if_pos h,run_end (hn.trans e2) rfl (show (2 : Int) < 9 by decide) (by decide)]; rfl
 · have hk : ¬ storeOk w at' v = true := by unfold storeOk loadM; rw [if_pos (by omega)]; decide
   have hst : storeM w at' v = w := by unfold storeM; rw [if_pos (by omega)]
   rw [if_neg hk,if_neg hk,hst] at hn
   have e2 : lisF 9 [⟨15,2,0,[0],imm⟩] ⟨argsV [IntKind.i32.wrap (at' - imm),v] 2,2,-2,w,[],1,[]⟩ = (⟨argsV [IntKind.i32.wrap (at' - imm),v] 2,2,-2,w,[],1,[]⟩,false) := by
     have hn2 := ok_n (N := 9) (s := ⟨argsV [IntKind.i32.wrap (at' - imm),v] 2,2,-2,w,[],1,[]⟩) (show (2 : Int) ≠ 0 by decide)
     rw [lisF,if_neg (by rw [hn2.1]; decide),hn2.2]
   rw [if_neg h,run_stop (hn.trans e2)]; rfl
theorem take20 (m : List Int) : (List.take (Int.toNat (min (m.length : Int) 20)) m).length ≤ 20 := by rw [List.length_take]; omega
theorem memo_t {a v : Int} {w : List Int} {o : D.Outcome} (h : o = if 0 ≤ a ∧ a < w.length then ⟨1,v,w.set a.toNat v,[],3⟩ else ⟨2,-2,w,[],1⟩) (hc : 0 ≤ a ∧ a < w.length) : o.End = 1 ∧ o.Val = v ∧ o.Steps = 3 ∧ o.Mem = w.set a.toNat v := by
 rw [if_pos hc] at h; subst h; exact ⟨rfl,rfl,rfl,rfl⟩
theorem memo_f {a v : Int} {w : List Int} {o : D.Outcome} (h : o = if 0 ≤ a ∧ a < w.length then ⟨1,v,w.set a.toNat v,[],3⟩ else ⟨2,-2,w,[],1⟩) (hc : ¬ (0 ≤ a ∧ a < w.length)) : o.End = 2 ∧ o.Val = -2 ∧ o.Steps = 1 ∧ o.Mem = w := by
 rw [if_neg hc] at h; subst h; exact ⟨rfl,rfl,rfl,rfl⟩
theorem memo_no {a : Int} {w : List Int} (h : (((loadM w a).2 == (decide (0 ≤ a) && decide (a < (w.length : Int)))) = false ∨ (0 ≤ a ∧ a < (w.length : Int)) ∧ ¬ (loadM w a).1 = ix w a.toNat) ∨ (¬ 0 ≤ a ∨ ¬ a < (w.length : Int)) ∧ ¬ (loadM w a).1 = 0) : False := by
 by_cases hc : 0 ≤ a ∧ a < w.length
 · have e : loadM w a = (ix w a.toNat,true) := by unfold loadM; rw [if_neg (by omega)]
   rw [e,decide_eq_true hc.1,decide_eq_true hc.2] at h
   rcases h with (h | h) | h
   · cases h
   · exact h.2 rfl
   · omega
 · have e : loadM w a = (0,false) := by unfold loadM; rw [if_pos (by omega)]
   have e2 : (decide (0 ≤ a) && decide (a < (w.length : Int))) = false := by
     rw [Bool.and_eq_false_iff]
     by_cases h0 : 0 ≤ a
     · exact .inr (decide_eq_false (fun h1 => hc ⟨h0,h1⟩))
     · exact .inl (decide_eq_false h0)
   rw [e,e2] at h
   rcases h with (h | h) | h
   · cases h
   · exact hc h.1
   · exact h.2 rfl
theorem E10 : Ent Try.prog 10 := ⟨_,Try.func10,by kernel_rfl,by kernel_rfl⟩
attribute [local irreducible] runF
end Go.Proofs.Ytmfkkodnghambaa
namespace Go.Proofs.Ytmfkkodnghambaa
open Go.JE
abbrev U4 := @Try.underlying4
theorem J40 : (Try.prog.info? 40).bind (·.zero) = some (.agg #[.slice none 0 0,.slice none 0 0,.slice none 0 0,.int .i64 0]) := by kernel_rfl
attribute [local irreducible] runF
set_option maxRecDepth 8000 in
theorem mem_ct4 {a0 : Value} {mem : List Int} {N0 : Nat} (at' : Int) (v : Int) (ww1 : IntKind.i32.wrap at' = at') (ww2 : IntKind.i32.wrap v = v) : Tv Try.prog 4 #[a0,.int .i32 at',.int .i32 v] [dv (rLn N0 (rI .i32)) a0 mem] [] (.bool true) := by
 refine jenter (args := [a0,.int .i32 at',.int .i32 v]) Try.func4 rfl rfl rfl fun w0 X => ?_
 have hwl := take20 mem
 refine jq (jr (ja Z (jn (jx (jq (jr (jcv E10 Z Z shown4_ct dn kn (ja Z (jn (jx (jq ?_)))))))))))
 refine jr (jlit (r := (rI .i32)) (l := []) U23 I21 (by decide) Z Z Z ln fun g19 => jm Z (jm Z (jdq d0 fun q1 w1 => js (jln U23 d0 Z) (js (jmin Z Z) (js (jshi (hi := (Int.toNat (min (↑(List.length mem)) 20))) U23 Z21 d0 Z Z (by omega) (by omega)) (jdq (dhi d0 (Int.toNat (min (↑(List.length mem)) 20)) (by omega) (by omega)) fun q2 w2 => japlz U23 I21 (by decide) Z k0 Z Z (dhi d0 (Int.toNat (min (↑(List.length mem)) 20)) (by omega) (by omega)) (by (try simp) <;> omega) fun v25 w3 => ?_))))))
 generalize hme0 : List.take (Int.toNat (min (↑(List.length mem)) 20)) mem = me0 at q2 w2 hwl ⊢
 refine ja Z (jn (jx (jq (jr (jm Z (jm Z (js (jxorw Z Z) (ja Z (jn (jx (jq ?_)))))))))))
 refine jr (jlit (r := (rI .i64)) (l := [0,1]) U32 I3 (by decide) Z Z Z (lV Z Z (wI (wl 0)) (lV Z Z (wI (wl 1)) ln)) fun g29 => jm Z (js (jbu (v := .agg #[.int .i64 16,.int .i64 0,.int .i64 0,(.slice (some ⟨g29,0,none⟩) 2 2),.int .i32 (xorI .i32 v (at'))]) Z (fun _ => by kernel_rfl)) (jlit (r := (rI .i64)) (l := [0]) U32 I3 (by decide) Z Z Z (lV Z Z (wI (wl 0)) ln) fun g32 => jm Z (js (jbu (v := .agg #[.int .i64 15,.int .i64 2,.int .i64 0,(.slice (some ⟨g32,0,none⟩) 1 1),.int .i32 (xorI .i32 v (at'))]) Z (fun _ => by kernel_rfl)) (jfz k1 (by (try simp) <;> omega) (jfz k0 (by (try simp) <;> omega) (jlit (r := rIns) (l := [⟨16,0,0,[0,1],xorI .i32 v (at')⟩,⟨15,2,0,[0],xorI .i32 v (at')⟩]) U35 I34 (by decide) Z Z Z (lA (rIns.M (m := ⟨16,0,0,[0,1],xorI .i32 v (at')⟩) (c := (.slice (some ⟨g29,0,none⟩) 2 2)) d1 (wl 16) (wl 0) (wl 0) (wp (JE.wrap_wrap _ _))) (lA (rIns.M (m := ⟨15,2,0,[0],xorI .i32 v (at')⟩) (c := (.slice (some ⟨g32,0,none⟩) 1 1)) d0 (wl 15) (wl 2) (wl 0) (wp (JE.wrap_wrap _ _))) ln)) fun g35 => jcs2 E13 Z Z (ret4_ct 2 (by decide)) dn kn fun c36a c36b => jfz k0 (by (try simp) <;> omega) ?_)))))))
 refine jdq d0 fun q8 w8 => jcs E12 Z Z (one4_ct 2 (by decide)) (dc d0 (dc d1 dn)) kn fun c37 => jalc J30 Z fun g10 => jdq (rFunc.cB d0) fun q10 w10 => jsta k0 Z30 Z Z Z ⟨Z,w10.one,trivial⟩ (saf Z) (jn (jx (jq (jr (jm Z (jm Z (js (jsubw Z Z) ?_)))))))
 refine jm Z (jlit (r := (rI .i32)) (l := [IntKind.i32.wrap ((at') - (xorI .i32 v (at'))),v]) U23 I21 (by decide) Z Z Z (lV Z Z (wI (wp (JE.wrap_wrap _ _))) (lV Z Z (wI (wp ww2)) ln)) fun g42 => jm Z (js (jbu (v := .agg #[(.slice (some ⟨g42,0,none⟩) 2 2),v25,.slice none 0 0,.int .i64 9]) Z (fun _ => by obtain ⟨_,_,_,rfl⟩ := w3; kernel_rfl)) (jalc J40 Z fun g11 => jsta k0 Z40 Z Z Z ⟨Z,w3.one,Z,Z,trivial⟩ (saf Z) (jn (jx (jq (jr (js (jla k2 A30 Z30 Z Z Z) (js (jla k0 A40 Z40 Z Z Z) ?_)))))))))
 refine jfz k1 (by (try simp) <;> omega) (jfz k2 (by omega) (jcs2 E11 Z Z (rRun_ct (i := ⟨[IntKind.i32.wrap ((at') - (xorI .i32 v (at'))),v],me0,[],9⟩) memo_good (show (9 : Int) ≤ 1000000 by decide)) (dc d2 (dc (rInput.M (m := ⟨[IntKind.i32.wrap ((at') - (xorI .i32 v (at'))),v],me0,[],9⟩) (c := ((.slice (some ⟨g42,0,none⟩) 2 2),v25,.slice none 0 0)) d1 d0 wN (wl 9)) dn)) kn fun c47a c47b => ?_))
 generalize hoa : runF (one3 2 ([⟨16,0,0,[0,1],xorI .i32 v (at')⟩,⟨15,2,0,[0],xorI .i32 v (at')⟩]) (ret3 2)) (⟨[IntKind.i32.wrap ((at') - (xorI .i32 v (at'))),v],me0,[],9⟩) = oa at ⊢
 have hO := hoa.symm.trans (memo_run hwl ww1)
 refine jalc J26 Z fun g12 => jdq (rOutcome.c_Mem d0) fun q14 w14 => jdq (rOutcome.c_Calls d0) fun q15 w15 => jsta k0 Z26 Z Z Z ⟨Z,Z,w14.one,w15.one,Z,trivial⟩ (saf Z) (jn (jx (jq (jr (jm Z (jm Z (jcv E16 Z Z (pLoad_ct (at') ww1) (dc d1 dn) kn (jm Z ?_))))))))
 refine js (jex' Z Z) (js (jex' Z Z) (ja Z (ja Z (jn (jx (jq (jr (jm Z (js (jgeq Z Z) (jm Z (jg Z Z (.t _) (fun hg => jmv Z) ?_)))))))))))
 refine jg Z Z (.t _) (fun hg => jco U21 U3 (evg Z hg) (up_i32_i64 ww1)) (jg Z Z (.t _) (fun hg => jmv Z) (jg Z Z (.t _) (fun hg => jln U23 d1 (evg Z hg)) (jg Z Z (.t _) (fun hg => jlss (evg Z hg) (evg Z hg)) (js (jand Z Z) (ja Z (jn (jx (jq (jq (jr (jm Z ?_)))))))))))
 refine jm Z (js (jneqB U4 Z Z) (jm Z (jg Z Z (.f _) (fun hg => jmv Z) (jg Z Z (.f _) (fun hg => jmv (evg Z hg)) (jg Z Z (.gt _ _) (fun hg => jmv Z) (jg Z Z (.gt _ _) (fun hg => jmv Z) (jg Z Z (.gt _ _) (fun hg => jmv Z) (jg Z Z (.gt _ _) (fun hg => jix (i := (Int.toNat (at'))) U23 Z21 d1 (evg Z hg) (evg Z hg) (by first | omega | (simp at hg; omega)) (by first | omega | (simp at hg; omega) | (simp only [List.length_set]; omega) | (simp; done))) (jg Z Z (.gt _ _) (fun hg => jlI (dix d1 (Int.toNat (at')) (by first | omega | (simp at hg; omega) | (simp only [List.length_set]; omega) | (simp; done))) O21 (evg Z hg)) (jg Z Z (.gt _ _) (fun hg => jneq (evg Z hg) (evg Z hg)) (jg Z Z (.f _) (fun hg => jand2 hg Z Z) ?_)))))))))))
 refine js (jor Z Z) (jm Z (jg Z Z (.f _) (fun hg => jmv Z) (jg Z Z (.f _) (fun hg => jnot (evg Z hg)) (jg Z Z (.f _) (fun hg => jmv (evg Z hg)) (jg Z Z (.gt _ _) (fun hg => jmv Z) (jg Z Z (.gt _ _) (fun hg => jneq (evg Z hg) Z) (jg Z Z (.f _) (fun hg => jand2 hg Z Z) (js (jor Z Z) (jn (jx ?_))))))))))
 refine jif Z (fun hc1 => ?_) (fun hc1 => ?_)
 refine jq (jr (ja Z (jn (jx (jrt (jtr ?_))))))
 exact jrB Z Z (by first | exact (memo_no hc1).elim | (simp; done) | (rw [hE.1,hE.2.1,hE.2.2.1,hE.2.2.2]; rw [hS,ix_set (by omega),if_pos rfl]; simp [rowsM]; done))
 refine jsk (jx (jq (jr (jlit (r := (rI .i32)) (l := []) U23 I21 (by decide) Z Z Z ln fun g85 => jm Z (japlz U23 I21 (by decide) Z k0 Z Z d1 (by omega) fun v87 w16 => ja Z (jn (jx (jq (jq ?_)))))))))
 refine jr (jm Z (js (jnot Z) (jn (jx ?_))))
 refine jif Z (fun hc2 => ?_) (fun hc2 => ?_)
 have hE := memo_f hO (by omega)
 have hsl := storeM_len me0 at' v
 have hS : storeM me0 at' v = me0 := by unfold storeM; rw [if_pos (by omega)]
 refine jq (jr (jm Z (jm Z (jk Z Z (.t _) (jf F26_0 Z) (jk Z Z (.t _) (jl k1 O3 Z Z) (jk Z Z (.t _) (jeql Z Z) ?_))))))
 rw [show (decide (oa.End = 2)) = true from decide_eq_true hE.1]
 refine js (jand Z Z) (jm Z (jk Z Z (.t _) (jf F26_1 Z) (jk Z Z (.t _) (jl k1 O21 Z Z) (jk Z Z (.t _) (jeql Z Z) ?_))))
 rw [show (decide (oa.Val = (-2))) = true from decide_eq_true hE.2.1]
 refine js (jand Z Z) (jm Z (jk Z Z (.t _) (jf F26_4 Z) (jk Z Z (.t _) (jl k1 O3 Z Z) (jk Z Z (.t _) (jeql Z Z) ?_))))
 rw [show (decide (oa.Steps = 1)) = true from decide_eq_true hE.2.2.1]
 refine js (jand Z Z) (jm Z (jk Z Z (.t _) (jf F26_2 Z) (jk Z Z (.t _) (jl k1 O23 Z Z) (jk Z Z (.t _) (jmv Z) (jgk Z Z (.t _) (jc E17 Z Z (Tv.temp1 1073741824 words_ct (by omega)) (dc (rOutcome.c_Mem d0) dn) (kc k0 kn) (fun _ => p0) (fun _ => p1) fun _ => ?_))))))
 rw [show (rowsM oa.Mem me0) = true from (by rw [hE.2.2.2]; simp [rowsM])]
 refine js (jand Z Z) (jm Z (jk Z Z (.t _) (jmv Z) (jk Z Z (.t _) (jmv Z) (jk Z Z (.t _) (jmv Z) (jgk Z Z (.t _) (jc E18 Z Z (pStore_ct (at') v (by omega) ww1 ww2) dn (kc k0 kn) (fun _ => p0) (fun _ => p1) fun _ => jk Z Z (.t _) (jnot Z) ?_))))))
 rw [show (!(storeOk me0 (at') v)) = true from (by unfold storeOk loadM; rw [if_pos (by omega)]; rfl)]
 refine js (jand Z Z) (jm Z (jk Z Z (.t _) (jmv Z) (jk Z Z (.t _) (jmv Z) (jgk Z Z (.t _) (jc E17 Z Z (Tv.temp 1073741824 words_ct (by (try simp) <;> omega)) (dc d1 dn) (kc k0 kn) (fun _ => p0) (fun _ => p1) fun _ => ?_)))))
 rw [show (rowsM (storeM me0 (at') v) me0) = true from (by rw [hS]; simp [rowsM])]
 refine js (jand Z Z) (ja Z (jn (jx (jrt (jtr ?_)))))
 exact jrB Z Z (by first | exact (memo_no hc1).elim | (simp; done) | (rw [hE.1,hE.2.1,hE.2.2.1,hE.2.2.2]; rw [hS,ix_set (by omega),if_pos rfl]; simp [rowsM]; done))
 have hE := memo_t hO (by omega)
 have hsl := storeM_len me0 at' v
 have hS : storeM me0 at' v = me0.set (Int.toNat at') v := by unfold storeM; rw [if_neg (by omega)]
 refine jsk (jx (jq (jr (jm Z (jm Z (jm Z (jc E18 Z Z (pStore_ct (at') v (by omega) ww1 ww2) dn (kc k0 kn) (fun _ => p0) (fun _ => p1) fun _ => ?_)))))))
 rw [show (storeOk me0 (at') v) = true from (by unfold storeOk loadM; rw [if_neg (by omega)])]
 refine ja Z (jn (jx (jq (jr (jm Z (jm Z (jk Z Z (.t _) (jmv Z) (js (jand Z Z) (jm Z (jk Z Z (.t _) (jmv Z) (jk Z Z (.t _) (jmv Z) ?_)))))))))))
 refine jk Z Z (.t _) (jig (i := (Int.toNat (at'))) U23 Z21 k0 Z Z (by omega) (by omega)) (jk Z Z (.t _) (jgI k0 (by omega) O21 Z) (jk Z Z (.t _) (jmv Z) (jk Z Z (.t _) (jeql Z Z) (js (jand Z Z) (jm Z (jg Z Z (.t _) (fun hg => jf F26_0 Z) (jg Z Z (.t _) (fun hg => jl k1 O3 (evg Z hg) Z) (jg Z Z (.t _) (fun hg => jeql (evg Z hg) Z) (js (jand Z Z) (jm Z (jg Z Z (.t _) (fun hg => jf F26_1 Z) ?_)))))))))))
 refine jg Z Z (.t _) (fun hg => jl k1 O21 (evg Z hg) Z) (jg Z Z (.t _) (fun hg => jmv Z) (jg Z Z (.t _) (fun hg => jeql (evg Z hg) (evg Z hg)) (js (jand Z Z) (jm Z (jg Z Z (.t _) (fun hg => jf F26_4 Z) (jg Z Z (.t _) (fun hg => jl k1 O3 (evg Z hg) Z) (jg Z Z (.t _) (fun hg => jeql (evg Z hg) Z) (js (jand Z Z) (jm Z (jg Z Z (.t _) (fun hg => jf F26_2 Z) (jg Z Z (.t _) (fun hg => jl k1 O23 (evg Z hg) Z) ?_)))))))))))
 refine jg Z Z (.t _) (fun hg => jmv Z) (jgc Z Z (.t _) E17 Z (fun hg => evl2 (evg Z hg) (evg Z hg)) (fun hg => (Tv.temp1 1073741824 words_ct (by (try simp) <;> omega))) (fun hg => (dc (rOutcome.c_Mem d0) dn)) (kc k0 kn) p1 (js (jand Z Z) (ja Z (jn (jx (jrt ?_))))))
 exact jrB Z Z (by first | exact (memo_no hc1).elim | (simp; done) | (rw [hE.1,hE.2.1,hE.2.2.1,hE.2.2.2]; rw [hS,ix_set (by omega),if_pos rfl]; simp [rowsM]; done))
end Go.Proofs.Ytmfkkodnghambaa
