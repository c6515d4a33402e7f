/- Lemmas that the claim is made of. Conditions: each lemma names its own. -/
import Derived.Test.YtmfkkodnghambaaGreatKI13
import Derived.Test.YtmfkkodnghambaaGreatKI11
set_option linter.unusedSectionVars false
set_option linter.unusedSimpArgs false
set_option linter.unusedVariables false
namespace Go.Proofs.YtmfkkodnghambaaGreat
open Go.JE
theorem E10 : Ent Tryz.prog 10 := ⟨_,Tryz.func10,by kernel_rfl,by kernel_rfl⟩
theorem E11 : Ent Tryz.prog 11 := ⟨_,Tryz.func11,by kernel_rfl,by kernel_rfl⟩
theorem E13 : Ent Tryz.prog 13 := ⟨_,Tryz.func13,by kernel_rfl,by kernel_rfl⟩
theorem E16 : Ent Tryz.prog 16 := ⟨_,Tryz.func16,by kernel_rfl,by kernel_rfl⟩
theorem E18 : Ent Tryz.prog 18 := ⟨_,Tryz.func18,by kernel_rfl,by kernel_rfl⟩
theorem E9 : Ent Tryz.prog 9 := ⟨_,Tryz.func9,by kernel_rfl,by kernel_rfl⟩
theorem G24_7 : ∃ fs f,Tryz.prog.underlying 24 = some (.struct fs) ∧ fs[7]? = some f ∧ f.offset = 7 ∧ f.type = 22 := ⟨_,_,Tryz.underlying24,rfl,rfl,rfl⟩
def GrO (b : D.Outcome) (me : List Int) (cl : List D.Event) (s : Int) : Prop := s ≤ b.Steps ∧ b.Mem.length = me.length ∧ ∃ t,b.Calls = cl ++ t
abbrev KO := List Int → List Int → List D.Event → List Int → Int → D.Outcome
theorem GrO.refl {e v s : Int} {me : List Int} {cl : List D.Event} : GrO ⟨e,v,me,cl,s⟩ me cl s := ⟨Int.le_refl _,rfl,[],(List.append_nil _).symm⟩
theorem GrO.up {b : D.Outcome} {me me' : List Int} {cl t : List D.Event} {s s' : Int} (h : GrO b me' (cl ++ t) s') (h1 : s ≤ s') (h2 : me'.length = me.length) : GrO b me cl s := by
 obtain ⟨a,b,u,c⟩ := h
 exact ⟨by omega,by omega,t ++ u,by rw [c,List.append_assoc]⟩
theorem GrO.up0 {b : D.Outcome} {me me' : List Int} {cl : List D.Event} {s s' : Int} (h : GrO b me' cl s') (h1 : s ≤ s') (h2 : me'.length = me.length) : GrO b me cl s := by
 obtain ⟨a,b,u,c⟩ := h
 exact ⟨by omega,by omega,u,c⟩
theorem ins_grow {N : Int} {K : KO} (hK : ∀ rs me cl an s,GrO (K rs me cl an s) me cl s) : ∀ (l : List D.Mach) (rs me : List Int) (cl : List D.Event) (an : List Int) (s : Int),GrO (insRun N K l rs me cl an s) me cl s
 | [],rs,me,cl,an,s => hK _ _ _ _ _
 | i :: l,rs,me,cl,an,s => by
   rw [insRun]
   split
   · exact GrO.refl
   split
   · exact (ins_grow hK l _ _ _ _ _).up (by omega) rfl
   split
   · exact ⟨by dsimp only; omega,(stepM_len _ _ _).2,[],(List.append_nil _).symm⟩
   · exact (ins_grow hK l _ _ _ _ _).up0 (by omega) (stepM_len _ _ _).2
theorem end_grow {N : Int} {e : D.End} {go : Int → KO} (hK : ∀ t rs me cl an s,GrO (go t rs me cl an s) me cl s) (rs me : List Int) (cl : List D.Event) (an : List Int) (s : Int) : GrO (endRun N e go rs me cl an s) me cl s := by
 unfold endRun
 split
 · exact GrO.refl
 split
 · exact ⟨by dsimp only; omega,rfl,[],(List.append_nil _).symm⟩
 split
 · exact ⟨by dsimp only; omega,rfl,[],(List.append_nil _).symm⟩
 · exact (hK _ _ _ _ _ _).up0 (by omega) rfl
theorem block_grow (bs : List D.MBlock) (N : Int) : ∀ (f : Nat) (a b : Int) (rs me : List Int) (cl : List D.Event) (an : List Int) (s : Int),GrO (blockRun bs N f a b rs me cl an s) me cl s
 | 0,_,_,_,_,_,_,_ => GrO.refl
 | f + 1,a,b,rs,me,cl,an,s => ins_grow (fun rs me cl an s => end_grow (fun t rs me cl an s => block_grow bs N f t a rs me cl an s) rs me cl an s) _ _ _ _ _ _
theorem made7_bl (s : List Int) : (made7 s).Blocks.length ≤ 1000 := by
 obtain ⟨nx,h1,h2,_⟩ := made7_mb s
 have := h1.n1
 omega
theorem run_mem (m : D.MFunc) (i : D.Input) : (runM m i).Mem.length ≤ 4096 := by
 unfold runM
 split
 · exact Nat.zero_le _
 · rw [(block_grow _ _ _ _ _ _ _ _ _ _).2.1]; exact memM_len i
theorem takes_len (i : D.Mach) : (takesM (few9M i)).length ≤ 7 := by
 have h : (few9M i).Args.length ≤ 7 := by show (i.Args.take 7).length ≤ 7; rw [List.length_take]; omega
 unfold takesM
 repeat' split
 all_goals first | exact h | (simp; done)
theorem own_same (l b : List Int) : sameT (lawMade l b 300).1 (made7 (List.take (Int.toNat (min (l.length : Int) 200)) l)) = true := by
 rw [← take_min l 200 200 rfl,show (lawMade l b 300).1 = made7 (l.take 200) by unfold lawMade; rfl]; unfold sameT; exact decide_eq_true rfl
theorem own_small (l b : List Int) : SmallF 8000 (lawMade l b 300).1 := by unfold lawMade; exact made7_small _
theorem own_len (l b : List Int) : (lawMade l b 300).1.Blocks.length ≤ 1000 := by unfold lawMade; exact made7_bl _
theorem own_steps (l b : List Int) : (lawMade l b 300).2.Steps ≤ 1000000 := by unfold lawMade; show min (max 300 (-1)) 500 ≤ 1000000; decide
attribute [local irreducible] runM lawMade sameT
set_option maxRecDepth 20000 in
set_option maxHeartbeats 1000000 in
theorem machOwn_ct {a0 : Value} {l : List Int} {N0 : Nat} {a1 : Value} {b : List Int} {N1 : Nat} {a2 : Value} {i : D.Mach} {N2 : Nat} : Tv Tryz.prog 3 #[a0,a1,vMach i a2] [dv (rLn N0 (rI .i64)) a0 l,dv (rLn N1 (rI .i64)) a1 b,da (rMachN N2) (vMach i a2) i] [] (.bool true) := by
 refine jenter (args := [a0,a1,vMach i a2]) Tryz.func3 rfl rfl rfl fun w0 X => ?_
 refine jq (jr (jbox Z Z fun g5 => ja Z (jn (jx (jq (jr (jcv E9 Z Z shown_ct dn kn (ja Z (jn (jx ?_))))))))))
 refine jq (jr (jm Z (jm Z (jdq d0 fun q1 w1 => jdq d1 fun q2 w2 => jc E10 Z Z (lawMade_ct 300) (dc d0 (dc d1 dn)) kn (fun _ => p2) (fun _ => p0) fun c23 => jm Z (js (jex' Z Z) (js (jex' Z Z) (jalc J28 Z fun g8 => jalc J31 Z fun g9 => ?_)))))))
 refine jdq (rMFunc.cB d0) fun q5 w5 => jsta k1 Z28 Z Z Z ⟨Z,w5.one,trivial⟩ (saf Z) (jdq (rInput.c_Args d1) fun q6 w6 => jdq (rInput.c_Mem d1) fun q7 w7 => jdq (rInput.c_Answers d1) fun q8 w8 => jsta k1 Z31 Z Z Z ⟨w6.one,w7.one,w8.one,Z,trivial⟩ (saf Z) (jn (jx (jq (jr (js (jf F31_1 Z) (js (jl k0 O29 Z Z) ?_)))))))
 refine jcd E11 Z Z lawSome_ct (dc (rInput.c_Mem d1) dn) kn fun v28 q9 w9 => ja Z (jn (jx (jq (jr (js (jla k1 A28 Z28 Z Z Z) (js (jla k0 A31 Z31 Z Z Z) (jc E12 Z Z (pRunO_ct (m := (lawMade l b 300).1) (i := (lawMade l b 300).2) (own_steps l b)) (dc d1 (dc d2 dn)) kn (fun _ => p1) (fun _ => p1) fun c31 => jgo k0 fun w12 => jalc J37 Z fun g11 => jdq d0 fun q13 w13 => ?_)))))))
 refine jsta k0 Z37 Z Z Z ⟨Z,Z,w12.one,w13.one,Z,trivial⟩ (saf Z) (jn (jx (jq (jr (js (jf F37_1 Z) (js (jl k0 O21 Z Z) (ja Z (jn (jx (jq (jr ?_)))))))))))
 refine js (jf F37_4 Z) (js (jl k0 O3 Z Z) (ja Z (jn (jx (jq (jq (jr (ja Z (jn (jx (jb ?_)))))))))))
 refine jlp (u2 fun (k : Nat) (me : List Int) => ⟨k ≤ me.length ∧ me.length ≤ 4096,[dv (rL rEvent) c31.2 ((runM ((lawMade l b 300).1) ((lawMade l b 300).2)).Calls),dv (rL (rI .i32)) v28 ((List.take 20) (((lawMade l b 300).2).Mem)),da rMFunc (vMFunc ((lawMade l b 300).1) c23.1) ((lawMade l b 300).1),da rInput (vInput ((lawMade l b 300).2) c23.2) ((lawMade l b 300).2),dv (rLn N0 (rI .i64)) a0 l,da (rMachN N2) (vMach i a2) i],[bx g11 37 [.int .i64 ((runM ((lawMade l b 300).1) ((lawMade l b 300).2)).End),.int .i32 ((runM ((lawMade l b 300).1) ((lawMade l b 300).2)).Val),c31.1,c31.2,.int .i64 ((runM ((lawMade l b 300).1) ((lawMade l b 300).2)).Steps)],gl X.n (rI .i32) 21 c31.1 me,bx g9 31 [c23.2.1,c23.2.2.1,c23.2.2.2,.int .i64 (((lawMade l b 300).2).Steps)],bx g8 28 [.int .i64 (((lawMade l b 300).1).Params),c23.1],bx g5 24 [.int .i64 i.Op,.int .i64 i.D,.int .i64 i.E,.int .i64 i.A,.int .i64 i.B,.int .i64 i.C,.int .i32 i.Imm,a2]],[(0,a0),(5,.pointer (some ⟨g5,0,none⟩)),(6,.bool false),(7,.bool true),(8,.pointer (some ⟨g8,0,none⟩)),(9,.pointer (some ⟨g9,0,none⟩)),(10,v28),(11,.pointer (some ⟨g11,0,none⟩)),(12,.int .i32 ((runM ((lawMade l b 300).1) ((lawMade l b 300).2)).Val)),(13,.int .i64 ((runM ((lawMade l b 300).1) ((lawMade l b 300).2)).Steps)),(14,.int .i64 (↑k))],4096 - k⟩) (0,(runM ((lawMade l b 300).1) ((lawMade l b 300).2)).Mem) ⟨by dsimp only; omega,run_mem _ _⟩ (dc d0 (dc d1 (dc d2 (dc d3 (dc d4 (dc d6 dn)))))) (kd (kd (kc k0 kn))) ⟨Z,Z,Z,Z,Z,Z,Z,Z,Z,Z,eqI (by omega),trivial⟩ ?_
 rintro ⟨k,me⟩; dsimp only [u2]; rintro ⟨hk,hml⟩
 refine jq (jq (jr (jm Z (js (jf F37_2 Z) (js (jl k0 O29 Z Z) (js (jlg U29 k1 Z) (js (jlss Z Z) (jn (jx ?_)))))))))
 refine jif Z (fun hc1 => ?_) (fun hc1 => ?_)
 refine jsk (jx (jq (jb (jr (js (jf F37_2 Z) (js (jl k0 O29 Z Z) (jm Z (js (jig U29 Z21 k1 Z Z Z (by omega)) (jsg k1 Z Z21 Z Z Z (by omega) (wI (wl 77)) (jn (jbn ?_)))))))))))
 refine jx (jr (jm Z (js (jadd Z Z (by omega)) (ja Z (jn ?_)))))
 exact jag (k + 1,List.set me k 77) ⟨by dsimp only; rw [List.length_set]; omega,by dsimp only; rw [List.length_set]; exact hml⟩ (dc d0 (dc d1 (dc d2 (dc d3 (dc d4 (dc d5 dn)))))) (kc k1 (kd (kd kn))) ⟨Z,Z,Z,Z,Z,Z,Z,Z,Z,Z,eqI (by omega),trivial⟩
 refine jex (jtx (jtx (jbh (jx (jq (jr (js (jla k4 A24 Z24 Z Z Z) (jcs E13 Z Z lawFew_ct (dc d5 dn) kn fun c48 => jalc J24 Z fun g15 => jdq (rMach.c_Args d0) fun q15 w15 => jsta k0 Z24 Z Z Z ⟨Z,Z,Z,Z,Z,Z,Z,w15.one,trivial⟩ (saf Z) ?_))))))))
 refine jn (jx (jq (jr (js (jla k0 A24 Z24 Z Z Z) (jcg E14 Z Z pTakesO_ct (dc d0 dn) kn fun v50 w16 => ja Z (jn (jx (jq (jq (jr ?_))))))))))
 refine ja Z (jn (jx (jb ?_)))
 refine jlp (u2 fun (j : Nat) (tl : List Int) => ⟨j ≤ tl.length ∧ tl.length ≤ 7,[da rMach (vMach (few9M i) c48) (few9M i),dv (rL (rI .i32)) v28 ((List.take 20) (((lawMade l b 300).2).Mem)),da rMFunc (vMFunc ((lawMade l b 300).1) c23.1) ((lawMade l b 300).1),da rInput (vInput ((lawMade l b 300).2) c23.2) ((lawMade l b 300).2),dv (rLn N0 (rI .i64)) a0 l,da (rMachN N2) (vMach i a2) i],[gl X.n (rI .i64) 3 v50 tl,bx g15 24 [.int .i64 ((few9M i).Op),.int .i64 ((few9M i).D),.int .i64 ((few9M i).E),.int .i64 ((few9M i).A),.int .i64 ((few9M i).B),.int .i64 ((few9M i).C),.int .i32 ((few9M i).Imm),c48],bx g9 31 [c23.2.1,c23.2.2.1,c23.2.2.2,.int .i64 (((lawMade l b 300).2).Steps)],bx g8 28 [.int .i64 (((lawMade l b 300).1).Params),c23.1],bx g5 24 [.int .i64 i.Op,.int .i64 i.D,.int .i64 i.E,.int .i64 i.A,.int .i64 i.B,.int .i64 i.C,.int .i32 i.Imm,a2]],[(0,a0),(5,.pointer (some ⟨g5,0,none⟩)),(6,.bool false),(7,.bool true),(8,.pointer (some ⟨g8,0,none⟩)),(9,.pointer (some ⟨g9,0,none⟩)),(10,v28),(12,.int .i32 ((runM ((lawMade l b 300).1) ((lawMade l b 300).2)).Val)),(13,.int .i64 ((runM ((lawMade l b 300).1) ((lawMade l b 300).2)).Steps)),(15,.pointer (some ⟨g15,0,none⟩)),(16,v50),(17,.int .i64 (↑j))],7 - j⟩) (0,takesM (few9M i)) ⟨by dsimp only; omega,takes_len _⟩ (dc d0 (dc d2 (dc d3 (dc d4 (dc d5 (dc d6 dn)))))) (kd (kc k2 (kc k2 (kc k2 kn)))) ⟨Z,Z,Z,Z,Z,Z,Z,Z,Z,Z,Z,eqI (by omega),trivial⟩ ?_
 rintro ⟨j,tl⟩; dsimp only [u2]; rintro ⟨hj,htl⟩
 refine jq (jq (jr (jm Z (jm Z (js (jlg U22 k0 Z) (js (jlss Z Z) (jn (jx ?_))))))))
 refine jif Z (fun hc2 => ?_) (fun hc2 => ?_)
 refine jsk (jx (jq (jb (jr (jm Z (jm Z (js (jig U22 Z3 k0 Z Z Z (by omega)) (jsg k0 Z Z3 Z Z Z (by omega) (wI (wl (-7))) (jn (jbn (jx ?_)))))))))))
 refine jr (jm Z (js (jadd Z Z (by omega)) (ja Z (jn ?_))))
 exact jag (j + 1,List.set tl j (-7)) ⟨by dsimp only; rw [List.length_set]; omega,by dsimp only; rw [List.length_set]; exact htl⟩ (dc d0 (dc d1 (dc d2 (dc d3 (dc d4 (dc d5 dn)))))) (kd (kd (kc k0 kn))) ⟨Z,Z,Z,Z,Z,Z,Z,Z,Z,Z,Z,eqI (by omega),trivial⟩
 refine jex (jtx (jtx (jbh (jx (jq (jr (js (jla k3 A28 Z28 Z Z Z) (js (jla k2 A31 Z31 Z Z Z) (jc E12 Z Z (pRunO_ct (m := (lawMade l b 300).1) (i := (lawMade l b 300).2) (own_steps l b)) (dc d2 (dc d3 dn)) kn (fun _ => p1) (fun _ => p1) fun c62 => jgo k0 fun w18 => jalc J37 Z fun g18 => ?_)))))))))
 refine jdq d0 fun q19 w19 => jsta k0 Z37 Z Z Z ⟨Z,Z,w18.one,w19.one,Z,trivial⟩ (saf Z) (jn (jx (jq (jany false (.a 0 (.a 1 (.a 2 (.a 3 (.a 5 (.o 4 (.o 6 (.a 7 (.a 8 (.a 9 (.a 10 (.a 11 (.a 12 (.a 13 (.a 14 (.o 15 (.o 16 (.a 17 (.a 18 (.a 19 (.a 20 (.a 21 (.a 22 (.a 23 (.a 24 (.a 25 (.a 26 (.a 27 (.a 28 (.a 29 (.a 30 (.a 31 (.a 32 (.a 33 (.o 34 (.a 35 (.o 36 (.a 37 (.a 38 .e))))))))))))))))))))))))))))))))))))))) Mixed (by kernel_rfl) (kc k0 (kc k2 (kc k2 (kc k2 (kc k2 kn))))) fun F20 => jy Z (jmv Z) (jy Z (jmv Z) (jyk Z Z Z (.t _) (jf F31_1 Z) (jyk Z Z Z (.t _) (jl k2 O29 Z Z) (jyk Z Z Z (.t _) (jmv Z) (jyo Z ?_)))))))))
 refine jgk Z Z (.t _) (jcd E11 Z Z lawSome_ct (dc (rInput.c_Mem d5) dn) kn fun v67 q22 w22 => jyn d1 (kc k0 (kc k2 (kc k2 (kc k2 (kc k2 kn))))) (jyo Z (jgk Z Z (.t _) (jcv E15 Z Z words_ct (dc d1 (dc d5 dn)) kn ?_))))
 rw [show (rowsM ((List.take 20) (((lawMade l b 300).2).Mem)) ((List.take 20) (((lawMade l b 300).2).Mem))) = true from (by simp [rowsM])]
 refine jyn d0 (kc k0 (kc k2 (kc k2 (kc k2 (kc k2 kn))))) (jy Z (jand Z Z) (jy Z (jmv Z) (jyk Z Z Z (.t _) (jla k3 A28 Z28 Z Z Z) (jyk Z Z Z (.t _) (jmv Z) (jyk Z Z Z (.t _) (jmv Z) (jyk Z Z Z (.t _) (jln U22 d5 Z) (jyk Z Z Z (.t _) (jmin Z Z) (jyk Z Z Z (.t _) (jshi (hi := (Int.toNat (min (↑(List.length l)) 200))) U22 Z3 d5 Z Z (by omega) (by omega)) (jyo Z (jgk Z Z (.t _) (jdq (dhi d9 (Int.toNat (min (↑(List.length l)) 200)) (by omega) (by omega)) fun q26 w26 => ?_)))))))))))
 refine jcs E17 Z Z r7made_ct (dc (dhi d9 (Int.toNat (min (↑(List.length l)) 200)) (by omega) (by omega)) dn) kn fun c78 => jyn d1 (kc k0 (kc k2 (kc k2 (kc k2 (kc k2 kn))))) (jyo Z (jgk Z Z (.t _) (jcv E16 Z Z (rSame7_ct (own_small l b) (own_len l b) (made7_small _) (made7_bl _)) (dc d9 (dc d1 dn)) kn ?_)))
 rw [show (sameT ((lawMade l b 300).1) (made7 (List.take (Int.toNat (min (↑(List.length l)) 200)) l))) = true from (own_same l b)]
 refine jyn d0 (kc k0 (kc k2 (kc k2 (kc k2 (kc k2 kn))))) (jy Z (jand Z Z) (jy Z (jmv Z) (jyk Z Z Z (.t _) (jf F37_1 Z) (jyk Z Z Z (.t _) (jl k0 O21 Z Z) (jyk Z Z Z (.t _) (jmv Z) (jyk Z Z Z (.t _) (jeql Z Z) ?_))))))
 rw [show (decide ((runM ((lawMade l b 300).1) ((lawMade l b 300).2)).Val = (runM ((lawMade l b 300).1) ((lawMade l b 300).2)).Val)) = true from (by simp)]
 refine jy Z (jand Z Z) (jy Z (jmv Z) (jyk Z Z Z (.t _) (jf F37_4 Z) (jyk Z Z Z (.t _) (jl k0 O3 Z Z) (jyk Z Z Z (.t _) (jmv Z) (jyk Z Z Z (.t _) (jeql Z Z) ?_)))))
 rw [show (decide ((runM ((lawMade l b 300).1) ((lawMade l b 300).2)).Steps = (runM ((lawMade l b 300).1) ((lawMade l b 300).2)).Steps)) = true from (by simp)]
 refine jy Z (jand Z Z) (jy Z (jmv Z) (jyk Z Z Z (.t _) (jf F24_7 Z) (jyk Z Z Z (.t _) (jl k1 O22 Z Z) (jyk Z Z Z (.t _) (jla k4 A24 Z24 Z Z Z) (jyo Z (jgk Z Z (.t _) (jcs E13 Z Z lawFew_ct (dc d13 dn) kn fun c97 => jyn d1 (kc k0 (kc k2 (kc k2 (kc k2 (kc k2 kn))))) (jyk Z Z Z (.t _) (jfo G24_7 O22 Z Z) (jyo Z (jgk Z Z (.t _) ?_))))))))))
 refine jdq (rMach.c_Args d1) fun q32 w32 => jcv E18 Z Z lawRow_ct (dc (rMach.c_Args d10) (dc (rMach.c_Args d1) dn)) kn ?_
 rw [show (rowsM ((few9M i).Args) ((few9M i).Args)) = true from (by simp [rowsM])]
 refine jyn d0 (kc k0 (kc k2 (kc k2 (kc k2 (kc k2 kn))))) (jy Z (jand Z Z) (jy Z (jas Z) (jyd (jx (jrt ?_)))))
 exact jrB Z Z (by rfl)
end Go.Proofs.YtmfkkodnghambaaGreat
