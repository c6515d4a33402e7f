/- Lemmas that the claim is made of. Conditions: each lemma names its own. -/
import Derived.Test.YtmfkkodnghambaaKH7
set_option linter.unusedSectionVars false
set_option linter.unusedSimpArgs false
set_option linter.unusedVariables false
namespace Go.Proofs.Ytmfkkodnghambaa
open Go.JE
theorem E14 : Ent Try.prog 14 := ⟨_,Try.func14,by kernel_rfl,by kernel_rfl⟩
theorem E15 : Ent Try.prog 15 := ⟨_,Try.func15,by kernel_rfl,by kernel_rfl⟩
theorem E18 : Ent Try.prog 18 := ⟨_,Try.func18,by kernel_rfl,by kernel_rfl⟩
theorem E51 : Ent Try.prog 51 := ⟨_,Try.func51,by kernel_rfl,by kernel_rfl⟩
theorem F34_4 : Fld Try.prog 34 4 4 := ⟨_,_,Try.underlying34,rfl,rfl,1,(by unfold Sz; kernel_rfl),by decide⟩
theorem F72_2 : Fld Try.prog 72 2 6 := ⟨_,_,Try.underlying72,rfl,rfl,1,(by unfold Sz; kernel_rfl),by decide⟩
theorem I60 : (Try.prog.info? 60).map (fun i => (i.zero,i.size,i.bytes)) = some (some (.agg #[.int .i32 0,.slice none 0 0]),2,32) := by kernel_rfl
theorem Z23 : Sz Try.prog 23 1 := by unfold Sz; kernel_rfl
theorem Z24 : Sz Try.prog 24 1 := by unfold Sz; kernel_rfl
set_option maxRecDepth 4000
set_option maxHeartbeats 2000000 in
theorem rIns_ct {g0 gm Bm Bc : Nat} {V : Int → Int} {mv cv av : Value} {me an : List Int} {cl : List D.Event} {e0 x0 st0 ss0 : Int} {a1 : Value} {i : D.Ins} (hO : (1 ≤ i.Op ∧ i.Op ≤ 18) ∧ (operM i.Op).1 ≤ (i.Args.length : Int) ∧ (i.Args.length : Int) ≤ (operM i.Op).2) (hml : me.length < 1073741824) (hcl : cl.length < 1000000000) : Tr Try.prog 26 #[.pointer (some ⟨g0,0,none⟩),vIns i a1] [dv (rL (rI .i32)) av an,da rIns (vIns i a1) i] [bx g0 72 [.map (some gm),.int .i64 e0,.int .i32 x0,mv,cv,.int .i64 st0,av,.int .i64 ss0],vm gm V,gl Bm (rI .i32) 21 mv me,gl Bc rEvent 60 cv cl] (fun c : Value × Value => .tuple #[]) (fun c => [dv (rL (rI .i32)) c.2 (inzA i an)]) (fun _ c => [bx g0 72 [.map (some gm),.int .i64 (inzE i V me e0),.int .i32 (inzX i V me x0),mv,c.1,.int .i64 st0,c.2,.int .i64 ss0],vm gm (inzV i V me an),gl Bm (rI .i32) 21 mv (inzM i V me),gl Bc rEvent 60 c.1 (inzC i V cl)]) := by
 refine jenter (args := [.pointer (some ⟨g0,0,none⟩),vIns i a1]) Try.func26 rfl rfl rfl fun w0 X => ?_
 refine cgo k2 fun w1 => cgo k3 fun w2 => cvw k1 fun hvw => ?_
 obtain ⟨ho15,ho2,hol⟩ := oper_facts hO
 have hwl : (List.map V i.Args).length = i.Args.length := by simp
 refine jq (jr (jbox Z Z fun g2 => jbox Z Z fun g3 => jn (jx (jq (jr (js (jl k1 O69 Z Z) (js (jf F34_3 Z) (js (jl k0 O32 Z Z) (jdq d0 fun q3 w3 => ?_)))))))))
 refine jc E50 Z Z (rWords_ct w1.one w2.one w3.one) (dc (rIns.c_Args d1) dn) (kc k2 (kc k2 kn)) (fun _ => p0) (fun _ => p3) fun v11 => jgo k2 fun w4 => ja Z (jn (jx (jq (jr (js (jmf1 Z) (ja Z (jn (jx (jq ?_)))))))))
 refine jr (js (jf F34_0 Z) (js (jl k3 O3 Z Z) (jn (jx (jb (jq (jr (js (jeql Z Z) (ja Z (jn (jx ?_)))))))))))
 refine jif Z (fun hc1 => ?_) (fun hc1 => ?_)
 refine jany false (.a 0 (.a 1 (.a 2 (.a 3 (.a 4 (.a 5 (.a 6 (.a 7 (.o 8 .e))))))))) Mixed (by kernel_rfl) (kc k0 (kc k2 (kc k2 kn))) fun F5 => jy Z (jl k2 O69 Z Z) (jy Z (jnil Z) (jy Z (jf F72_0 Z) (jy Z (jl k0 O70 Z Z) (jy Z (jf F34_1 Z) (jy Z (jl k1 O3 Z Z) (jy Z (jf F34_4 Z) (jy Z (jl k1 O21 Z Z) (jyo Z (jvu U70 U3 k1 Z Z Z (rIns.W_Imm d2) (jyn d0 (kc k1 (kc k2 (kc k2 kn))) ?_))))))))))
 refine jyd (jbn ?_)
 have q1 : inzV i V me an = setV V i.Dst i.Imm := by first | (simp [inzV,inzE,inzX,inzM,inzC,inzA,inzT,aI,hc1]; done) | (simp [inzV,inzE,inzX,inzM,inzC,inzA,inzT,aI,hc1]; split <;> simp_all; done) | (simp_all [inzV,inzE,inzX,inzM,inzC,inzA,inzT,aI]; done)
 have q2 : inzE i V me e0 = e0 := by first | (simp [inzV,inzE,inzX,inzM,inzC,inzA,inzT,aI,hc1]; done) | (simp [inzV,inzE,inzX,inzM,inzC,inzA,inzT,aI,hc1]; split <;> simp_all; done) | (simp_all [inzV,inzE,inzX,inzM,inzC,inzA,inzT,aI]; done)
 have q3 : inzX i V me x0 = x0 := by first | (simp [inzV,inzE,inzX,inzM,inzC,inzA,inzT,aI,hc1]; done) | (simp [inzV,inzE,inzX,inzM,inzC,inzA,inzT,aI,hc1]; split <;> simp_all; done) | (simp_all [inzV,inzE,inzX,inzM,inzC,inzA,inzT,aI]; done)
 have q4 : inzM i V me = me := by first | (simp [inzV,inzE,inzX,inzM,inzC,inzA,inzT,aI,hc1]; done) | (simp [inzV,inzE,inzX,inzM,inzC,inzA,inzT,aI,hc1]; split <;> simp_all; done) | (simp_all [inzV,inzE,inzX,inzM,inzC,inzA,inzT,aI]; done)
 have q5 : inzC i V cl = cl := by first | (simp [inzV,inzE,inzX,inzM,inzC,inzA,inzT,aI,hc1]; done) | (simp [inzV,inzE,inzX,inzM,inzC,inzA,inzT,aI,hc1]; split <;> simp_all; done) | (simp_all [inzV,inzE,inzX,inzM,inzC,inzA,inzT,aI]; done)
 have q6 : inzA i an = an := by first | (simp [inzV,inzE,inzX,inzM,inzC,inzA,inzT,aI,hc1]; done) | (simp [inzV,inzE,inzX,inzM,inzC,inzA,inzT,aI,hc1]; split <;> simp_all; done) | (simp_all [inzV,inzE,inzX,inzM,inzC,inzA,inzT,aI]; done)
 simp only [q1,q2,q3,q4,q5,q6]
 exact jd0 Z (cv,av) Z (dc d1 dn) (fun _ _ => (kc k1 (kc k0 (kc k3 (kc k3 kn)))))
 refine jq (jr (js (jeql Z Z) (ja Z (jn (jx ?_)))))
 refine jif Z (fun hc2 => ?_) (fun hc2 => ?_)
 have ho15 := ho15 hc2
 refine jany false (.a 0 (.a 1 (.a 2 (.a 4 (.a 5 (.a 6 (.a 7 (.a 8 (.a 9 (.a 10 (.a 12 (.a 13 (.a 14 (.a 15 (.a 16 (.a 17 (.w 3 11 (.o 11 (.o 18 (.a 19 (.a 20 (.o 21 (.o 22 .e)))))) (.w 3 18 (.o 18 (.a 19 (.a 20 (.o 21 (.o 22 .e))))) (.a 19 (.a 20 (.w 3 21 (.o 21 (.o 22 .e)) (.o 3 (.o 22 .e))))))))))))))))))))))) Mixed (by kernel_rfl) (kc k2 (kc k2 (kc k2 kn))) fun F7 => jy Z (jl k2 O69 Z Z) (jy Z (jnil Z) (jy Z (jf F72_0 Z) (jy Z (jf F34_1 Z) (jy Z (jl k1 O3 Z Z) (jy Z (jmv Z) (jy Z (jl k2 O69 Z Z) (jy Z (jnil Z) (jy Z (jf F72_1 Z) (jy Z (jf F26_2 Z) (jy Z (jmv Z) ?_))))))))))
 refine jy Z (jig (i := 0) U23 Z21 k0 Z Z Z (by first | omega | (simp <;> omega))) (jy Z (jgI k0 (by first | omega | (simp <;> omega)) O21 Z) (jy Z (jf F34_4 Z) (jy Z (jl k1 O21 Z Z) (jy Z (jaddw Z Z) ?_))))
 refine jyw Z Z ?_ ?_
 refine js (jl k0 O70 Z Z) (jyn d0 (kc k2 (kc k2 (kc k2 kn))) (jyo Z (js (jl k0 O23 Z Z) (jyn d0 (kc k2 (kc k2 (kc k2 kn))) (jyo Z (jc E16 Z Z (Tv.temp 1073741824 (pLoad_ct (IntKind.i32.wrap ((ix (List.map V i.Args) 0) + i.Imm)) (JE.wrap_wrap _ _)) (by omega)) dn (kc k5 kn) (fun _ => p0) (fun _ => p1) fun _ => jyn d0 (kc k3 (kc k3 (kc k3 kn))) (jy Z (jex' Z Z) (jy Z (jex' Z Z) (jyo Z (jc E51 Z Z (rTrap_ct _ _ Z w1.one w2.one w3.one) dn (kc k1 (kc k4 kn)) (fun _ => p0) (fun _ => p2) fun _ => ?_))))))))))
 refine jyn d0 (kc k4 (kc k4 (kc k1 kn))) (jyo Z (jvu U70 U3 k3 Z Z Z (wld k2 (IntKind.i32.wrap ((ix (List.map V i.Args) 0) + i.Imm))) (jyn d0 (kc k4 (kc k4 (kc k2 kn))) (jyd (jbn ?_)))))
 have q1 : inzV i V me an = setV V i.Dst ((loadM me (IntKind.i32.wrap ((ix (List.map V i.Args) 0) + i.Imm))).1) := by first | (simp [inzV,inzE,inzX,inzM,inzC,inzA,inzT,aI,hc1,hc2]; done) | (simp [inzV,inzE,inzX,inzM,inzC,inzA,inzT,aI,hc1,hc2]; split <;> simp_all; done) | (simp_all [inzV,inzE,inzX,inzM,inzC,inzA,inzT,aI]; done)
 have q2 : inzE i V me e0 = if ((loadM me (IntKind.i32.wrap ((ix (List.map V i.Args) 0) + i.Imm))).2) = true then e0 else 2 := by first | (simp [inzV,inzE,inzX,inzM,inzC,inzA,inzT,aI,hc1,hc2]; done) | (simp [inzV,inzE,inzX,inzM,inzC,inzA,inzT,aI,hc1,hc2]; split <;> simp_all; done) | (simp_all [inzV,inzE,inzX,inzM,inzC,inzA,inzT,aI]; done)
 have q3 : inzX i V me x0 = if ((loadM me (IntKind.i32.wrap ((ix (List.map V i.Args) 0) + i.Imm))).2) = true then x0 else -2 := by first | (simp [inzV,inzE,inzX,inzM,inzC,inzA,inzT,aI,hc1,hc2]; done) | (simp [inzV,inzE,inzX,inzM,inzC,inzA,inzT,aI,hc1,hc2]; split <;> simp_all; done) | (simp_all [inzV,inzE,inzX,inzM,inzC,inzA,inzT,aI]; done)
 have q4 : inzM i V me = me := by first | (simp [inzV,inzE,inzX,inzM,inzC,inzA,inzT,aI,hc1,hc2]; done) | (simp [inzV,inzE,inzX,inzM,inzC,inzA,inzT,aI,hc1,hc2]; split <;> simp_all; done) | (simp_all [inzV,inzE,inzX,inzM,inzC,inzA,inzT,aI]; done)
 have q5 : inzC i V cl = cl := by first | (simp [inzV,inzE,inzX,inzM,inzC,inzA,inzT,aI,hc1,hc2]; done) | (simp [inzV,inzE,inzX,inzM,inzC,inzA,inzT,aI,hc1,hc2]; split <;> simp_all; done) | (simp_all [inzV,inzE,inzX,inzM,inzC,inzA,inzT,aI]; done)
 have q6 : inzA i an = an := by first | (simp [inzV,inzE,inzX,inzM,inzC,inzA,inzT,aI,hc1,hc2]; done) | (simp [inzV,inzE,inzX,inzM,inzC,inzA,inzT,aI,hc1,hc2]; split <;> simp_all; done) | (simp_all [inzV,inzE,inzX,inzM,inzC,inzA,inzT,aI]; done)
 simp only [q1,q2,q3,q4,q5,q6]
 exact jd0 Z (cv,av) Z (dc d5 dn) (fun _ _ => (kc k1 (kc k0 (kc k1 (kc k3 kn)))))
 refine js (jl k0 O23 Z Z) (jyn d0 (kc k2 (kc k2 (kc k2 kn))) ?_)
 refine jyw Z Z ?_ ?_
 refine js (jl k0 O70 Z Z) (jyn d0 (kc k2 (kc k2 (kc k2 kn))) (jyo Z (jc E16 Z Z (Tv.temp 1073741824 (pLoad_ct (IntKind.i32.wrap ((ix (List.map V i.Args) 0) + i.Imm)) (JE.wrap_wrap _ _)) (by omega)) dn (kc k5 kn) (fun _ => p0) (fun _ => p1) fun _ => jyn d0 (kc k3 (kc k3 (kc k3 kn))) (jy Z (jex' Z Z) (jy Z (jex' Z Z) (jyo Z (jc E51 Z Z (rTrap_ct _ _ Z w1.one w2.one w3.one) dn (kc k1 (kc k4 kn)) (fun _ => p0) (fun _ => p2) fun _ => jyn d0 (kc k4 (kc k4 (kc k1 kn))) (jyo Z (jvu U70 U3 k3 Z Z Z (wld k2 (IntKind.i32.wrap ((ix (List.map V i.Args) 0) + i.Imm))) ?_)))))))))
 refine jyn d0 (kc k4 (kc k4 (kc k2 kn))) (jyd (jbn ?_))
 have q1 : inzV i V me an = setV V i.Dst ((loadM me (IntKind.i32.wrap ((ix (List.map V i.Args) 0) + i.Imm))).1) := by first | (simp [inzV,inzE,inzX,inzM,inzC,inzA,inzT,aI,hc1,hc2]; done) | (simp [inzV,inzE,inzX,inzM,inzC,inzA,inzT,aI,hc1,hc2]; split <;> simp_all; done) | (simp_all [inzV,inzE,inzX,inzM,inzC,inzA,inzT,aI]; done)
 have q2 : inzE i V me e0 = if ((loadM me (IntKind.i32.wrap ((ix (List.map V i.Args) 0) + i.Imm))).2) = true then e0 else 2 := by first | (simp [inzV,inzE,inzX,inzM,inzC,inzA,inzT,aI,hc1,hc2]; done) | (simp [inzV,inzE,inzX,inzM,inzC,inzA,inzT,aI,hc1,hc2]; split <;> simp_all; done) | (simp_all [inzV,inzE,inzX,inzM,inzC,inzA,inzT,aI]; done)
 have q3 : inzX i V me x0 = if ((loadM me (IntKind.i32.wrap ((ix (List.map V i.Args) 0) + i.Imm))).2) = true then x0 else -2 := by first | (simp [inzV,inzE,inzX,inzM,inzC,inzA,inzT,aI,hc1,hc2]; done) | (simp [inzV,inzE,inzX,inzM,inzC,inzA,inzT,aI,hc1,hc2]; split <;> simp_all; done) | (simp_all [inzV,inzE,inzX,inzM,inzC,inzA,inzT,aI]; done)
 have q4 : inzM i V me = me := by first | (simp [inzV,inzE,inzX,inzM,inzC,inzA,inzT,aI,hc1,hc2]; done) | (simp [inzV,inzE,inzX,inzM,inzC,inzA,inzT,aI,hc1,hc2]; split <;> simp_all; done) | (simp_all [inzV,inzE,inzX,inzM,inzC,inzA,inzT,aI]; done)
 have q5 : inzC i V cl = cl := by first | (simp [inzV,inzE,inzX,inzM,inzC,inzA,inzT,aI,hc1,hc2]; done) | (simp [inzV,inzE,inzX,inzM,inzC,inzA,inzT,aI,hc1,hc2]; split <;> simp_all; done) | (simp_all [inzV,inzE,inzX,inzM,inzC,inzA,inzT,aI]; done)
 have q6 : inzA i an = an := by first | (simp [inzV,inzE,inzX,inzM,inzC,inzA,inzT,aI,hc1,hc2]; done) | (simp [inzV,inzE,inzX,inzM,inzC,inzA,inzT,aI,hc1,hc2]; split <;> simp_all; done) | (simp_all [inzV,inzE,inzX,inzM,inzC,inzA,inzT,aI]; done)
 simp only [q1,q2,q3,q4,q5,q6]
 exact jd0 Z (cv,av) Z (dc d5 dn) (fun _ _ => (kc k1 (kc k0 (kc k1 (kc k3 kn)))))
 refine jc E16 Z Z (Tv.temp 1073741824 (pLoad_ct (IntKind.i32.wrap ((ix (List.map V i.Args) 0) + i.Imm)) (JE.wrap_wrap _ _)) (by omega)) dn (kc k5 kn) (fun _ => p0) (fun _ => p1) fun _ => jyn d0 (kc k3 (kc k3 (kc k3 kn))) (jy Z (jex' Z Z) (jy Z (jex' Z Z) ?_))
 refine jyw Z Z ?_ ?_
 refine js (jl k1 O70 Z Z) (jyn d0 (kc k3 (kc k3 (kc k3 kn))) (jyo Z (jc E51 Z Z (rTrap_ct _ _ Z w1.one w2.one w3.one) dn (kc k1 (kc k4 kn)) (fun _ => p0) (fun _ => p2) fun _ => jyn d0 (kc k4 (kc k4 (kc k1 kn))) (jyo Z (jvu U70 U3 k3 Z Z Z (wld k2 (IntKind.i32.wrap ((ix (List.map V i.Args) 0) + i.Imm))) (jyn d0 (kc k4 (kc k4 (kc k2 kn))) (jyd (jbn ?_))))))))
 have q1 : inzV i V me an = setV V i.Dst ((loadM me (IntKind.i32.wrap ((ix (List.map V i.Args) 0) + i.Imm))).1) := by first | (simp [inzV,inzE,inzX,inzM,inzC,inzA,inzT,aI,hc1,hc2]; done) | (simp [inzV,inzE,inzX,inzM,inzC,inzA,inzT,aI,hc1,hc2]; split <;> simp_all; done) | (simp_all [inzV,inzE,inzX,inzM,inzC,inzA,inzT,aI]; done)
 have q2 : inzE i V me e0 = if ((loadM me (IntKind.i32.wrap ((ix (List.map V i.Args) 0) + i.Imm))).2) = true then e0 else 2 := by first | (simp [inzV,inzE,inzX,inzM,inzC,inzA,inzT,aI,hc1,hc2]; done) | (simp [inzV,inzE,inzX,inzM,inzC,inzA,inzT,aI,hc1,hc2]; split <;> simp_all; done) | (simp_all [inzV,inzE,inzX,inzM,inzC,inzA,inzT,aI]; done)
 have q3 : inzX i V me x0 = if ((loadM me (IntKind.i32.wrap ((ix (List.map V i.Args) 0) + i.Imm))).2) = true then x0 else -2 := by first | (simp [inzV,inzE,inzX,inzM,inzC,inzA,inzT,aI,hc1,hc2]; done) | (simp [inzV,inzE,inzX,inzM,inzC,inzA,inzT,aI,hc1,hc2]; split <;> simp_all; done) | (simp_all [inzV,inzE,inzX,inzM,inzC,inzA,inzT,aI]; done)
 have q4 : inzM i V me = me := by first | (simp [inzV,inzE,inzX,inzM,inzC,inzA,inzT,aI,hc1,hc2]; done) | (simp [inzV,inzE,inzX,inzM,inzC,inzA,inzT,aI,hc1,hc2]; split <;> simp_all; done) | (simp_all [inzV,inzE,inzX,inzM,inzC,inzA,inzT,aI]; done)
 have q5 : inzC i V cl = cl := by first | (simp [inzV,inzE,inzX,inzM,inzC,inzA,inzT,aI,hc1,hc2]; done) | (simp [inzV,inzE,inzX,inzM,inzC,inzA,inzT,aI,hc1,hc2]; split <;> simp_all; done) | (simp_all [inzV,inzE,inzX,inzM,inzC,inzA,inzT,aI]; done)
 have q6 : inzA i an = an := by first | (simp [inzV,inzE,inzX,inzM,inzC,inzA,inzT,aI,hc1,hc2]; done) | (simp [inzV,inzE,inzX,inzM,inzC,inzA,inzT,aI,hc1,hc2]; split <;> simp_all; done) | (simp_all [inzV,inzE,inzX,inzM,inzC,inzA,inzT,aI]; done)
 simp only [q1,q2,q3,q4,q5,q6]
 exact jd0 Z (cv,av) Z (dc d5 dn) (fun _ _ => (kc k1 (kc k0 (kc k1 (kc k3 kn)))))
 refine jc E51 Z Z (rTrap_ct _ _ Z w1.one w2.one w3.one) dn (kc k1 (kc k4 kn)) (fun _ => p0) (fun _ => p2) fun _ => jyn d0 (kc k4 (kc k4 (kc k1 kn))) (jyo Z (js (jl k0 O70 Z Z) (jyn d0 (kc k4 (kc k4 (kc k1 kn))) (jyo Z (jvu U70 U3 k3 Z Z Z (wld k2 (IntKind.i32.wrap ((ix (List.map V i.Args) 0) + i.Imm))) (jyn d0 (kc k4 (kc k4 (kc k2 kn))) (jyd (jbn ?_))))))))
 have q1 : inzV i V me an = setV V i.Dst ((loadM me (IntKind.i32.wrap ((ix (List.map V i.Args) 0) + i.Imm))).1) := by first | (simp [inzV,inzE,inzX,inzM,inzC,inzA,inzT,aI,hc1,hc2]; done) | (simp [inzV,inzE,inzX,inzM,inzC,inzA,inzT,aI,hc1,hc2]; split <;> simp_all; done) | (simp_all [inzV,inzE,inzX,inzM,inzC,inzA,inzT,aI]; done)
 have q2 : inzE i V me e0 = if ((loadM me (IntKind.i32.wrap ((ix (List.map V i.Args) 0) + i.Imm))).2) = true then e0 else 2 := by first | (simp [inzV,inzE,inzX,inzM,inzC,inzA,inzT,aI,hc1,hc2]; done) | (simp [inzV,inzE,inzX,inzM,inzC,inzA,inzT,aI,hc1,hc2]; split <;> simp_all; done) | (simp_all [inzV,inzE,inzX,inzM,inzC,inzA,inzT,aI]; done)
 have q3 : inzX i V me x0 = if ((loadM me (IntKind.i32.wrap ((ix (List.map V i.Args) 0) + i.Imm))).2) = true then x0 else -2 := by first | (simp [inzV,inzE,inzX,inzM,inzC,inzA,inzT,aI,hc1,hc2]; done) | (simp [inzV,inzE,inzX,inzM,inzC,inzA,inzT,aI,hc1,hc2]; split <;> simp_all; done) | (simp_all [inzV,inzE,inzX,inzM,inzC,inzA,inzT,aI]; done)
 have q4 : inzM i V me = me := by first | (simp [inzV,inzE,inzX,inzM,inzC,inzA,inzT,aI,hc1,hc2]; done) | (simp [inzV,inzE,inzX,inzM,inzC,inzA,inzT,aI,hc1,hc2]; split <;> simp_all; done) | (simp_all [inzV,inzE,inzX,inzM,inzC,inzA,inzT,aI]; done)
 have q5 : inzC i V cl = cl := by first | (simp [inzV,inzE,inzX,inzM,inzC,inzA,inzT,aI,hc1,hc2]; done) | (simp [inzV,inzE,inzX,inzM,inzC,inzA,inzT,aI,hc1,hc2]; split <;> simp_all; done) | (simp_all [inzV,inzE,inzX,inzM,inzC,inzA,inzT,aI]; done)
 have q6 : inzA i an = an := by first | (simp [inzV,inzE,inzX,inzM,inzC,inzA,inzT,aI,hc1,hc2]; done) | (simp [inzV,inzE,inzX,inzM,inzC,inzA,inzT,aI,hc1,hc2]; split <;> simp_all; done) | (simp_all [inzV,inzE,inzX,inzM,inzC,inzA,inzT,aI]; done)
 simp only [q1,q2,q3,q4,q5,q6]
 exact jd0 Z (cv,av) Z (dc d5 dn) (fun _ _ => (kc k1 (kc k0 (kc k1 (kc k3 kn)))))
 refine jq (jr (js (jeql Z Z) (ja Z (jn (jx ?_)))))
 refine jif Z (fun hc3 => ?_) (fun hc3 => ?_)
 have ho2 := ho2 hc1 hc2 (by omega)
 refine jany false (.a 0 (.a 1 (.a 2 (.a 3 (.a 4 (.a 6 (.a 7 (.a 8 (.a 9 (.a 10 (.a 11 (.a 12 (.a 13 (.a 14 (.o 5 (.o 15 (.o 16 .e))))))))))))))))) Mixed (by kernel_rfl) (kc k2 (kc k2 (kc k2 kn))) fun F13 => jy Z (jmv Z) (jy Z (jl k2 O69 Z Z) (jy Z (jnil Z) (jy Z (jf F72_1 Z) (jy Z (jf F26_2 Z) (jy Z (jmv Z) (jy Z (jig (i := 0) U23 Z21 k0 Z Z Z (by first | omega | (simp <;> omega))) (jy Z (jgI k0 (by first | omega | (simp <;> omega)) O21 Z) (jy Z (jf F34_4 Z) (jy Z (jl k1 O21 Z Z) (jy Z (jaddw Z Z) ?_))))))))))
 refine jy Z (jmv Z) (jy Z (jig (i := 1) U23 Z21 k0 Z Z Z (by first | omega | (simp <;> omega))) (jy Z (jgI k0 (by first | omega | (simp <;> omega)) O21 Z) (jyo Z (js (jl k0 O23 Z Z) (jyn d0 (kc k2 (kc k2 (kc k2 kn))) (jyo Z (jwr (wgl (i := 1) k2 (by omega)) fun w16 => jc E18 Z Z (pStore_ct (IntKind.i32.wrap ((ix (List.map V i.Args) 0) + i.Imm)) (ix (List.map V i.Args) 1) (by omega) (JE.wrap_wrap _ _) w16) dn (kc k5 kn) (fun _ => p0) (fun _ => p1) fun _ => jyn d0 (kc k3 (kc k3 (kc k3 kn))) (jyo Z (jc E51 Z Z (rTrap_ct _ _ Z w1.one w2.one w3.one) dn (kc k1 (kc k4 kn)) (fun _ => p0) (fun _ => p2) fun _ => ?_)))))))))
 refine jyn d0 (kc k4 (kc k4 (kc k1 kn))) (jyd (jbn ?_))
 have q1 : inzV i V me an = V := by first | (simp [inzV,inzE,inzX,inzM,inzC,inzA,inzT,aI,hc1,hc2,hc3]; done) | (simp [inzV,inzE,inzX,inzM,inzC,inzA,inzT,aI,hc1,hc2,hc3]; split <;> simp_all; done) | (simp_all [inzV,inzE,inzX,inzM,inzC,inzA,inzT,aI]; done)
 have q2 : inzE i V me e0 = if (storeOk me (IntKind.i32.wrap ((ix (List.map V i.Args) 0) + i.Imm)) (ix (List.map V i.Args) 1)) = true then e0 else 2 := by first | (simp [inzV,inzE,inzX,inzM,inzC,inzA,inzT,aI,hc1,hc2,hc3]; done) | (simp [inzV,inzE,inzX,inzM,inzC,inzA,inzT,aI,hc1,hc2,hc3]; split <;> simp_all; done) | (simp_all [inzV,inzE,inzX,inzM,inzC,inzA,inzT,aI]; done)
 have q3 : inzX i V me x0 = if (storeOk me (IntKind.i32.wrap ((ix (List.map V i.Args) 0) + i.Imm)) (ix (List.map V i.Args) 1)) = true then x0 else -2 := by first | (simp [inzV,inzE,inzX,inzM,inzC,inzA,inzT,aI,hc1,hc2,hc3]; done) | (simp [inzV,inzE,inzX,inzM,inzC,inzA,inzT,aI,hc1,hc2,hc3]; split <;> simp_all; done) | (simp_all [inzV,inzE,inzX,inzM,inzC,inzA,inzT,aI]; done)
 have q4 : inzM i V me = storeM me (IntKind.i32.wrap ((ix (List.map V i.Args) 0) + i.Imm)) (ix (List.map V i.Args) 1) := by first | (simp [inzV,inzE,inzX,inzM,inzC,inzA,inzT,aI,hc1,hc2,hc3]; done) | (simp [inzV,inzE,inzX,inzM,inzC,inzA,inzT,aI,hc1,hc2,hc3]; split <;> simp_all; done) | (simp_all [inzV,inzE,inzX,inzM,inzC,inzA,inzT,aI]; done)
 have q5 : inzC i V cl = cl := by first | (simp [inzV,inzE,inzX,inzM,inzC,inzA,inzT,aI,hc1,hc2,hc3]; done) | (simp [inzV,inzE,inzX,inzM,inzC,inzA,inzT,aI,hc1,hc2,hc3]; split <;> simp_all; done) | (simp_all [inzV,inzE,inzX,inzM,inzC,inzA,inzT,aI]; done)
 have q6 : inzA i an = an := by first | (simp [inzV,inzE,inzX,inzM,inzC,inzA,inzT,aI,hc1,hc2,hc3]; done) | (simp [inzV,inzE,inzX,inzM,inzC,inzA,inzT,aI,hc1,hc2,hc3]; split <;> simp_all; done) | (simp_all [inzV,inzE,inzX,inzM,inzC,inzA,inzT,aI]; done)
 simp only [q1,q2,q3,q4,q5,q6]
 exact jd0 Z (cv,av) Z (dc d3 dn) (fun _ _ => (kc k0 (kc k2 (kc k1 (kc k3 kn)))))
 refine jq (jr (js (jeql Z Z) (ja Z (jn (jx ?_)))))
 refine jif Z (fun hc4 => ?_) (fun hc4 => ?_)
 refine jq (jany false (.a 0 (.a 1 (.a 2 (.a 3 (.a 4 (.a 6 (.a 7 (.a 8 (.a 9 (.w 5 10 (.o 10 (.o 11 (.a 12 (.a 13 (.a 14 (.o 15 .e)))))) (.o 5 (.o 11 (.a 12 (.a 13 (.a 14 (.o 15 .e)))))))))))))))) Mixed (by kernel_rfl) (kc k3 (kc k3 kn)) fun F18 => jy Z (jl k1 O69 Z Z) (jy Z (jl k1 O69 Z Z) (jy Z (jnil Z) (jy Z (jf F72_1 Z) (jy Z (jf F26_3 Z) (jy Z (jf F34_4 Z) (jy Z (jl k0 O21 Z Z) (jy Z (jmv Z) (jy Z (jbu (v := .agg #[.int .i32 i.Imm,v11]) Z (fun _ => by obtain ⟨_,_,_,rfl⟩ := w4; kernel_rfl)) ?_)))))))))
 refine jyw Z Z ?_ ?_
 refine js (jl k0 O24 Z Z) (jyn d0 (kc k3 (kc k3 kn)) (jyo Z (jfz k2 (by (try simp) <;> omega) (jlit (r := rEvent) (l := [⟨i.Imm,List.map V i.Args⟩]) U24 I60 (by decide) Z Z Z (lA (rEvent.M (m := ⟨i.Imm,List.map V i.Args⟩) (c := v11) d0 (rIns.W_Imm d4)) ln) fun g103 => jyn d1 (kc k3 (kc k3 kn)) (jyo Z (jfz k0 (by (try simp) <;> omega) (japl U24 I60 (by decide) Z k5 Z Z d0 (by (try simp) <;> omega) fun v104 w24 => jyn d1 (kc k3 (kc k3 kn)) (jy Z (jnil Z) (jy Z (jf F72_1 Z) ?_)))))))))
 refine jy Z (jf F26_3 Z) (jyo Z (jst k1 Z24 Z Z w24.one s4 (jyn d0 (kc k3 (kc k3 kn)) (jyd (jx (jq (jany false (.a 0 (.a 1 (.a 2 (.a 3 (.a 4 (.a 5 (.o 6 .e))))))) Mixed (by kernel_rfl) (kc k0 (kc k2 (kc k2 kn))) fun F26 => jy Z (jl k2 O69 Z Z) (jy Z (jnil Z) (jy Z (jf F72_0 Z) (jy Z (jl k0 O70 Z Z) ?_))))))))))
 refine jy Z (jf F34_1 Z) (jy Z (jl k1 O3 Z Z) (jyo Z (jvu U70 U3 k2 Z Z Z (wl 0) (jyn d0 (kc k1 (kc k2 (kc k2 kn))) (jyd (jx (jq (jr (js (jl k4 O69 Z Z) (js (jnil Z) (js (jf F72_2 Z) ?_)))))))))))
 refine js (jl k1 O23 Z Z) (js (jln U23 d7 Z) (js (jgtr Z Z) (jn (jx ?_))))
 refine jif Z (fun hc5 => ?_) (fun hc5 => ?_)
 refine jany false (.a 0 (.a 1 (.a 2 (.a 4 (.a 5 (.a 6 (.a 7 (.a 8 (.a 9 (.a 13 (.a 14 (.a 15 (.w3 3 10 16 (.w 10 16 (.a 11 (.a 12 (.o 16 (.a 17 (.o 18 (.a 19 (.o 20 (.a 21 (.a 22 (.o 23 .e)))))))))) (.a 17 (.w 10 18 (.a 11 (.a 12 (.o 18 (.a 19 (.o 20 (.a 21 (.a 22 (.o 23 .e)))))))) (.a 19 (.o 10 (.a 11 (.a 12 (.o 20 (.a 21 (.a 22 (.o 23 .e))))))))))) (.a 11 (.a 12 (.w 3 16 (.o 16 (.a 17 (.o 18 (.a 19 (.o 20 (.a 21 (.a 22 (.o 23 .e)))))))) (.a 17 (.o 3 (.o 18 (.a 19 (.o 20 (.a 21 (.a 22 (.o 23 .e))))))))))) (.a 17 (.w 3 10 (.w 10 18 (.a 11 (.a 12 (.o 18 (.a 19 (.o 20 (.a 21 (.a 22 (.o 23 .e)))))))) (.a 19 (.o 10 (.a 11 (.a 12 (.o 20 (.a 21 (.a 22 (.o 23 .e))))))))) (.a 11 (.a 12 (.o 3 (.o 18 (.a 19 (.o 20 (.a 21 (.a 22 (.o 23 .e)))))))))))))))))))))))) Mixed (by kernel_rfl) (kc k3 (kc k3 kn)) fun F28 => jy Z (jl k1 O69 Z Z) (jy Z (jnil Z) (jy Z (jf F72_0 Z) (jy Z (jf F34_1 Z) (jy Z (jl k0 O3 Z Z) (jy Z (jl k1 O69 Z Z) (jy Z (jl k1 O69 Z Z) (jy Z (jnil Z) (jy Z (jf F72_2 Z) (jy Z (jl k1 O69 Z Z) (jy Z (jnil Z) ?_))))))))))
 refine jy Z (jf F72_2 Z) ?_
 refine jyw3 Z Z Z ?_ ?_ ?_
 refine js (jl k1 O70 Z Z) (jyn d0 (kc k3 (kc k3 kn)) ?_)
 refine jyw Z Z ?_ ?_
 refine js (jl k1 O23 Z Z) (jyn d0 (kc k3 (kc k3 kn)) (jy Z (jix (i := 0) U23 Z21 d7 Z Z Z (by omega)) (jy Z (jlI (dix d7 0 (by omega)) O21 Z) (jyo Z (js (jl k1 O23 Z Z) (jyn d0 (kc k3 (kc k3 kn)) (jy Z (jslo (lo := 1) U23 Z21 d7 Z Z Z (by omega)) (jyo Z (jve U70 U3 J21 k0 Z Z fun u138 s138 => jyn d0 (kc k3 (kc k3 kn)) (jy Z (jex' Z Z) ?_))))))))))
 refine jyo Z (jvs k0 Z Z Z (wad (dix d12 0 (by omega))) (jyn d0 (kc k3 (kc k3 kn)) (jy Z (jnil Z) (jy Z (jf F72_2 Z) (jyo Z (jdq (dlo d13 1 (by omega) (by omega)) fun q35 w35 => jst k1 Z23 Z Z w35.one s6 (jyn d0 (kc k3 (kc k3 kn)) (jyd (jbn ?_)))))))))
 have q1 : inzV i V me an = setV (setV V i.Dst 0) i.Dst (ix an 0) := by first | (simp [inzV,inzE,inzX,inzM,inzC,inzA,inzT,aI,hc1,hc2,hc3,hc4,hc5]; done) | (simp [inzV,inzE,inzX,inzM,inzC,inzA,inzT,aI,hc1,hc2,hc3,hc4,hc5]; split <;> simp_all; done) | (simp_all [inzV,inzE,inzX,inzM,inzC,inzA,inzT,aI]; done)
 have q2 : inzE i V me e0 = e0 := by first | (simp [inzV,inzE,inzX,inzM,inzC,inzA,inzT,aI,hc1,hc2,hc3,hc4,hc5]; done) | (simp [inzV,inzE,inzX,inzM,inzC,inzA,inzT,aI,hc1,hc2,hc3,hc4,hc5]; split <;> simp_all; done) | (simp_all [inzV,inzE,inzX,inzM,inzC,inzA,inzT,aI]; done)
 have q3 : inzX i V me x0 = x0 := by first | (simp [inzV,inzE,inzX,inzM,inzC,inzA,inzT,aI,hc1,hc2,hc3,hc4,hc5]; done) | (simp [inzV,inzE,inzX,inzM,inzC,inzA,inzT,aI,hc1,hc2,hc3,hc4,hc5]; split <;> simp_all; done) | (simp_all [inzV,inzE,inzX,inzM,inzC,inzA,inzT,aI]; done)
 have q4 : inzM i V me = me := by first | (simp [inzV,inzE,inzX,inzM,inzC,inzA,inzT,aI,hc1,hc2,hc3,hc4,hc5]; done) | (simp [inzV,inzE,inzX,inzM,inzC,inzA,inzT,aI,hc1,hc2,hc3,hc4,hc5]; split <;> simp_all; done) | (simp_all [inzV,inzE,inzX,inzM,inzC,inzA,inzT,aI]; done)
 have q5 : inzC i V cl = cl ++ ([⟨i.Imm,List.map V i.Args⟩]) := by first | (simp [inzV,inzE,inzX,inzM,inzC,inzA,inzT,aI,hc1,hc2,hc3,hc4,hc5]; done) | (simp [inzV,inzE,inzX,inzM,inzC,inzA,inzT,aI,hc1,hc2,hc3,hc4,hc5]; split <;> simp_all; done) | (simp_all [inzV,inzE,inzX,inzM,inzC,inzA,inzT,aI]; done)
 have q6 : inzA i an = List.drop 1 an := by first | (simp [inzV,inzE,inzX,inzM,inzC,inzA,inzT,aI,hc1,hc2,hc3,hc4,hc5]; done) | (simp [inzV,inzE,inzX,inzM,inzC,inzA,inzT,aI,hc1,hc2,hc3,hc4,hc5]; split <;> simp_all; done) | (simp_all [inzV,inzE,inzX,inzM,inzC,inzA,inzT,aI]; done)
 simp only [q1,q2,q3,q4,q5,q6]
 exact jd0 Z (v104,(resl 1 av 1 (List.length an))) Z (dc (dlo d13 1 (by omega) (by omega)) dn) (fun _ _ => (kd (kc k3 (kc k0 kn))))
 refine js (jl k1 O23 Z Z) (jyn d0 (kc k3 (kc k3 kn)) (jy Z (jslo (lo := 1) U23 Z21 d7 Z Z Z (by omega)) ?_))
 refine jyw Z Z ?_ ?_
 refine js (jl k1 O23 Z Z) (jyn d0 (kc k3 (kc k3 kn)) (jy Z (jix (i := 0) U23 Z21 d7 Z Z Z (by omega)) (jy Z (jlI (dix d7 0 (by omega)) O21 Z) (jyo Z (jve U70 U3 J21 k0 Z Z fun u138 s138 => jyn d0 (kc k3 (kc k3 kn)) (jy Z (jex' Z Z) (jyo Z (jvs k0 Z Z Z (wad (dix d12 0 (by omega))) (jyn d0 (kc k3 (kc k3 kn)) (jy Z (jnil Z) ?_))))))))))
 refine jy Z (jf F72_2 Z) (jyo Z (jdq (dlo d13 1 (by omega) (by omega)) fun q35 w35 => jst k1 Z23 Z Z w35.one s6 (jyn d0 (kc k3 (kc k3 kn)) (jyd (jbn ?_)))))
 have q1 : inzV i V me an = setV (setV V i.Dst 0) i.Dst (ix an 0) := by first | (simp [inzV,inzE,inzX,inzM,inzC,inzA,inzT,aI,hc1,hc2,hc3,hc4,hc5]; done) | (simp [inzV,inzE,inzX,inzM,inzC,inzA,inzT,aI,hc1,hc2,hc3,hc4,hc5]; split <;> simp_all; done) | (simp_all [inzV,inzE,inzX,inzM,inzC,inzA,inzT,aI]; done)
 have q2 : inzE i V me e0 = e0 := by first | (simp [inzV,inzE,inzX,inzM,inzC,inzA,inzT,aI,hc1,hc2,hc3,hc4,hc5]; done) | (simp [inzV,inzE,inzX,inzM,inzC,inzA,inzT,aI,hc1,hc2,hc3,hc4,hc5]; split <;> simp_all; done) | (simp_all [inzV,inzE,inzX,inzM,inzC,inzA,inzT,aI]; done)
 have q3 : inzX i V me x0 = x0 := by first | (simp [inzV,inzE,inzX,inzM,inzC,inzA,inzT,aI,hc1,hc2,hc3,hc4,hc5]; done) | (simp [inzV,inzE,inzX,inzM,inzC,inzA,inzT,aI,hc1,hc2,hc3,hc4,hc5]; split <;> simp_all; done) | (simp_all [inzV,inzE,inzX,inzM,inzC,inzA,inzT,aI]; done)
 have q4 : inzM i V me = me := by first | (simp [inzV,inzE,inzX,inzM,inzC,inzA,inzT,aI,hc1,hc2,hc3,hc4,hc5]; done) | (simp [inzV,inzE,inzX,inzM,inzC,inzA,inzT,aI,hc1,hc2,hc3,hc4,hc5]; split <;> simp_all; done) | (simp_all [inzV,inzE,inzX,inzM,inzC,inzA,inzT,aI]; done)
 have q5 : inzC i V cl = cl ++ ([⟨i.Imm,List.map V i.Args⟩]) := by first | (simp [inzV,inzE,inzX,inzM,inzC,inzA,inzT,aI,hc1,hc2,hc3,hc4,hc5]; done) | (simp [inzV,inzE,inzX,inzM,inzC,inzA,inzT,aI,hc1,hc2,hc3,hc4,hc5]; split <;> simp_all; done) | (simp_all [inzV,inzE,inzX,inzM,inzC,inzA,inzT,aI]; done)
 have q6 : inzA i an = List.drop 1 an := by first | (simp [inzV,inzE,inzX,inzM,inzC,inzA,inzT,aI,hc1,hc2,hc3,hc4,hc5]; done) | (simp [inzV,inzE,inzX,inzM,inzC,inzA,inzT,aI,hc1,hc2,hc3,hc4,hc5]; split <;> simp_all; done) | (simp_all [inzV,inzE,inzX,inzM,inzC,inzA,inzT,aI]; done)
 simp only [q1,q2,q3,q4,q5,q6]
 exact jd0 Z (v104,(resl 1 av 1 (List.length an))) Z (dc (dlo d13 1 (by omega) (by omega)) dn) (fun _ _ => (kd (kc k3 (kc k0 kn))))
 refine jve U70 U3 J21 k0 Z Z fun u138 s138 => jyn d0 (kc k3 (kc k3 kn)) (jy Z (jex' Z Z) (jyo Z (js (jl k1 O23 Z Z) (jyn d0 (kc k3 (kc k3 kn)) (jy Z (jix (i := 0) U23 Z21 d7 Z Z Z (by omega)) (jy Z (jlI (dix d7 0 (by omega)) O21 Z) (jyo Z (jvs k0 Z Z Z (wad (dix d12 0 (by omega))) (jyn d0 (kc k3 (kc k3 kn)) (jy Z (jnil Z) ?_))))))))))
 refine jy Z (jf F72_2 Z) (jyo Z (jdq (dlo d13 1 (by omega) (by omega)) fun q35 w35 => jst k1 Z23 Z Z w35.one s6 (jyn d0 (kc k3 (kc k3 kn)) (jyd (jbn ?_)))))
 have q1 : inzV i V me an = setV (setV V i.Dst 0) i.Dst (ix an 0) := by first | (simp [inzV,inzE,inzX,inzM,inzC,inzA,inzT,aI,hc1,hc2,hc3,hc4,hc5]; done) | (simp [inzV,inzE,inzX,inzM,inzC,inzA,inzT,aI,hc1,hc2,hc3,hc4,hc5]; split <;> simp_all; done) | (simp_all [inzV,inzE,inzX,inzM,inzC,inzA,inzT,aI]; done)
 have q2 : inzE i V me e0 = e0 := by first | (simp [inzV,inzE,inzX,inzM,inzC,inzA,inzT,aI,hc1,hc2,hc3,hc4,hc5]; done) | (simp [inzV,inzE,inzX,inzM,inzC,inzA,inzT,aI,hc1,hc2,hc3,hc4,hc5]; split <;> simp_all; done) | (simp_all [inzV,inzE,inzX,inzM,inzC,inzA,inzT,aI]; done)
 have q3 : inzX i V me x0 = x0 := by first | (simp [inzV,inzE,inzX,inzM,inzC,inzA,inzT,aI,hc1,hc2,hc3,hc4,hc5]; done) | (simp [inzV,inzE,inzX,inzM,inzC,inzA,inzT,aI,hc1,hc2,hc3,hc4,hc5]; split <;> simp_all; done) | (simp_all [inzV,inzE,inzX,inzM,inzC,inzA,inzT,aI]; done)
 have q4 : inzM i V me = me := by first | (simp [inzV,inzE,inzX,inzM,inzC,inzA,inzT,aI,hc1,hc2,hc3,hc4,hc5]; done) | (simp [inzV,inzE,inzX,inzM,inzC,inzA,inzT,aI,hc1,hc2,hc3,hc4,hc5]; split <;> simp_all; done) | (simp_all [inzV,inzE,inzX,inzM,inzC,inzA,inzT,aI]; done)
 have q5 : inzC i V cl = cl ++ ([⟨i.Imm,List.map V i.Args⟩]) := by first | (simp [inzV,inzE,inzX,inzM,inzC,inzA,inzT,aI,hc1,hc2,hc3,hc4,hc5]; done) | (simp [inzV,inzE,inzX,inzM,inzC,inzA,inzT,aI,hc1,hc2,hc3,hc4,hc5]; split <;> simp_all; done) | (simp_all [inzV,inzE,inzX,inzM,inzC,inzA,inzT,aI]; done)
 have q6 : inzA i an = List.drop 1 an := by first | (simp [inzV,inzE,inzX,inzM,inzC,inzA,inzT,aI,hc1,hc2,hc3,hc4,hc5]; done) | (simp [inzV,inzE,inzX,inzM,inzC,inzA,inzT,aI,hc1,hc2,hc3,hc4,hc5]; split <;> simp_all; done) | (simp_all [inzV,inzE,inzX,inzM,inzC,inzA,inzT,aI]; done)
 simp only [q1,q2,q3,q4,q5,q6]
 exact jd0 Z (v104,(resl 1 av 1 (List.length an))) Z (dc (dlo d13 1 (by omega) (by omega)) dn) (fun _ _ => (kd (kc k3 (kc k0 kn))))
 refine js (jl k1 O23 Z Z) (jyn d0 (kc k3 (kc k3 kn)) (jy Z (jix (i := 0) U23 Z21 d7 Z Z Z (by omega)) (jy Z (jlI (dix d7 0 (by omega)) O21 Z) ?_)))
 refine jyw Z Z ?_ ?_
 refine js (jl k1 O70 Z Z) (jyn d0 (kc k3 (kc k3 kn)) (jyo Z (js (jl k1 O23 Z Z) (jyn d0 (kc k3 (kc k3 kn)) (jy Z (jslo (lo := 1) U23 Z21 d7 Z Z Z (by omega)) (jyo Z (jve U70 U3 J21 k0 Z Z fun u138 s138 => jyn d0 (kc k3 (kc k3 kn)) (jy Z (jex' Z Z) (jyo Z (jvs k0 Z Z Z (wad (dix d12 0 (by omega))) ?_))))))))))
 refine jyn d0 (kc k3 (kc k3 kn)) (jy Z (jnil Z) (jy Z (jf F72_2 Z) (jyo Z (jdq (dlo d13 1 (by omega) (by omega)) fun q35 w35 => jst k1 Z23 Z Z w35.one s6 (jyn d0 (kc k3 (kc k3 kn)) (jyd (jbn ?_)))))))
 have q1 : inzV i V me an = setV (setV V i.Dst 0) i.Dst (ix an 0) := by first | (simp [inzV,inzE,inzX,inzM,inzC,inzA,inzT,aI,hc1,hc2,hc3,hc4,hc5]; done) | (simp [inzV,inzE,inzX,inzM,inzC,inzA,inzT,aI,hc1,hc2,hc3,hc4,hc5]; split <;> simp_all; done) | (simp_all [inzV,inzE,inzX,inzM,inzC,inzA,inzT,aI]; done)
 have q2 : inzE i V me e0 = e0 := by first | (simp [inzV,inzE,inzX,inzM,inzC,inzA,inzT,aI,hc1,hc2,hc3,hc4,hc5]; done) | (simp [inzV,inzE,inzX,inzM,inzC,inzA,inzT,aI,hc1,hc2,hc3,hc4,hc5]; split <;> simp_all; done) | (simp_all [inzV,inzE,inzX,inzM,inzC,inzA,inzT,aI]; done)
 have q3 : inzX i V me x0 = x0 := by first | (simp [inzV,inzE,inzX,inzM,inzC,inzA,inzT,aI,hc1,hc2,hc3,hc4,hc5]; done) | (simp [inzV,inzE,inzX,inzM,inzC,inzA,inzT,aI,hc1,hc2,hc3,hc4,hc5]; split <;> simp_all; done) | (simp_all [inzV,inzE,inzX,inzM,inzC,inzA,inzT,aI]; done)
 have q4 : inzM i V me = me := by first | (simp [inzV,inzE,inzX,inzM,inzC,inzA,inzT,aI,hc1,hc2,hc3,hc4,hc5]; done) | (simp [inzV,inzE,inzX,inzM,inzC,inzA,inzT,aI,hc1,hc2,hc3,hc4,hc5]; split <;> simp_all; done) | (simp_all [inzV,inzE,inzX,inzM,inzC,inzA,inzT,aI]; done)
 have q5 : inzC i V cl = cl ++ ([⟨i.Imm,List.map V i.Args⟩]) := by first | (simp [inzV,inzE,inzX,inzM,inzC,inzA,inzT,aI,hc1,hc2,hc3,hc4,hc5]; done) | (simp [inzV,inzE,inzX,inzM,inzC,inzA,inzT,aI,hc1,hc2,hc3,hc4,hc5]; split <;> simp_all; done) | (simp_all [inzV,inzE,inzX,inzM,inzC,inzA,inzT,aI]; done)
 have q6 : inzA i an = List.drop 1 an := by first | (simp [inzV,inzE,inzX,inzM,inzC,inzA,inzT,aI,hc1,hc2,hc3,hc4,hc5]; done) | (simp [inzV,inzE,inzX,inzM,inzC,inzA,inzT,aI,hc1,hc2,hc3,hc4,hc5]; split <;> simp_all; done) | (simp_all [inzV,inzE,inzX,inzM,inzC,inzA,inzT,aI]; done)
 simp only [q1,q2,q3,q4,q5,q6]
 exact jd0 Z (v104,(resl 1 av 1 (List.length an))) Z (dc (dlo d13 1 (by omega) (by omega)) dn) (fun _ _ => (kd (kc k3 (kc k0 kn))))
 refine js (jl k1 O23 Z Z) (jyn d0 (kc k3 (kc k3 kn)) (jy Z (jslo (lo := 1) U23 Z21 d7 Z Z Z (by omega)) (jyo Z (js (jl k1 O70 Z Z) (jyn d0 (kc k3 (kc k3 kn)) (jyo Z (jve U70 U3 J21 k0 Z Z fun u138 s138 => jyn d0 (kc k3 (kc k3 kn)) (jy Z (jex' Z Z) (jyo Z (jvs k0 Z Z Z (wad (dix d12 0 (by omega))) ?_))))))))))
 refine jyn d0 (kc k3 (kc k3 kn)) (jy Z (jnil Z) (jy Z (jf F72_2 Z) (jyo Z (jdq (dlo d13 1 (by omega) (by omega)) fun q35 w35 => jst k1 Z23 Z Z w35.one s6 (jyn d0 (kc k3 (kc k3 kn)) (jyd (jbn ?_)))))))
 have q1 : inzV i V me an = setV (setV V i.Dst 0) i.Dst (ix an 0) := by first | (simp [inzV,inzE,inzX,inzM,inzC,inzA,inzT,aI,hc1,hc2,hc3,hc4,hc5]; done) | (simp [inzV,inzE,inzX,inzM,inzC,inzA,inzT,aI,hc1,hc2,hc3,hc4,hc5]; split <;> simp_all; done) | (simp_all [inzV,inzE,inzX,inzM,inzC,inzA,inzT,aI]; done)
 have q2 : inzE i V me e0 = e0 := by first | (simp [inzV,inzE,inzX,inzM,inzC,inzA,inzT,aI,hc1,hc2,hc3,hc4,hc5]; done) | (simp [inzV,inzE,inzX,inzM,inzC,inzA,inzT,aI,hc1,hc2,hc3,hc4,hc5]; split <;> simp_all; done) | (simp_all [inzV,inzE,inzX,inzM,inzC,inzA,inzT,aI]; done)
 have q3 : inzX i V me x0 = x0 := by first | (simp [inzV,inzE,inzX,inzM,inzC,inzA,inzT,aI,hc1,hc2,hc3,hc4,hc5]; done) | (simp [inzV,inzE,inzX,inzM,inzC,inzA,inzT,aI,hc1,hc2,hc3,hc4,hc5]; split <;> simp_all; done) | (simp_all [inzV,inzE,inzX,inzM,inzC,inzA,inzT,aI]; done)
 have q4 : inzM i V me = me := by first | (simp [inzV,inzE,inzX,inzM,inzC,inzA,inzT,aI,hc1,hc2,hc3,hc4,hc5]; done) | (simp [inzV,inzE,inzX,inzM,inzC,inzA,inzT,aI,hc1,hc2,hc3,hc4,hc5]; split <;> simp_all; done) | (simp_all [inzV,inzE,inzX,inzM,inzC,inzA,inzT,aI]; done)
 have q5 : inzC i V cl = cl ++ ([⟨i.Imm,List.map V i.Args⟩]) := by first | (simp [inzV,inzE,inzX,inzM,inzC,inzA,inzT,aI,hc1,hc2,hc3,hc4,hc5]; done) | (simp [inzV,inzE,inzX,inzM,inzC,inzA,inzT,aI,hc1,hc2,hc3,hc4,hc5]; split <;> simp_all; done) | (simp_all [inzV,inzE,inzX,inzM,inzC,inzA,inzT,aI]; done)
 have q6 : inzA i an = List.drop 1 an := by first | (simp [inzV,inzE,inzX,inzM,inzC,inzA,inzT,aI,hc1,hc2,hc3,hc4,hc5]; done) | (simp [inzV,inzE,inzX,inzM,inzC,inzA,inzT,aI,hc1,hc2,hc3,hc4,hc5]; split <;> simp_all; done) | (simp_all [inzV,inzE,inzX,inzM,inzC,inzA,inzT,aI]; done)
 simp only [q1,q2,q3,q4,q5,q6]
 exact jd0 Z (v104,(resl 1 av 1 (List.length an))) Z (dc (dlo d13 1 (by omega) (by omega)) dn) (fun _ _ => (kd (kc k3 (kc k0 kn))))
 refine js (jl k1 O23 Z Z) (jyn d0 (kc k3 (kc k3 kn)) (jy Z (jslo (lo := 1) U23 Z21 d7 Z Z Z (by omega)) ?_))
 refine jyw Z Z ?_ ?_
 refine js (jl k1 O70 Z Z) (jyn d0 (kc k3 (kc k3 kn)) ?_)
 refine jyw Z Z ?_ ?_
 refine js (jl k1 O23 Z Z) (jyn d0 (kc k3 (kc k3 kn)) (jy Z (jix (i := 0) U23 Z21 d7 Z Z Z (by omega)) (jy Z (jlI (dix d7 0 (by omega)) O21 Z) (jyo Z (jve U70 U3 J21 k0 Z Z fun u138 s138 => jyn d0 (kc k3 (kc k3 kn)) (jy Z (jex' Z Z) (jyo Z (jvs k0 Z Z Z (wad (dix d12 0 (by omega))) (jyn d0 (kc k3 (kc k3 kn)) (jy Z (jnil Z) ?_))))))))))
 refine jy Z (jf F72_2 Z) (jyo Z (jdq (dlo d13 1 (by omega) (by omega)) fun q35 w35 => jst k1 Z23 Z Z w35.one s6 (jyn d0 (kc k3 (kc k3 kn)) (jyd (jbn ?_)))))
 have q1 : inzV i V me an = setV (setV V i.Dst 0) i.Dst (ix an 0) := by first | (simp [inzV,inzE,inzX,inzM,inzC,inzA,inzT,aI,hc1,hc2,hc3,hc4,hc5]; done) | (simp [inzV,inzE,inzX,inzM,inzC,inzA,inzT,aI,hc1,hc2,hc3,hc4,hc5]; split <;> simp_all; done) | (simp_all [inzV,inzE,inzX,inzM,inzC,inzA,inzT,aI]; done)
 have q2 : inzE i V me e0 = e0 := by first | (simp [inzV,inzE,inzX,inzM,inzC,inzA,inzT,aI,hc1,hc2,hc3,hc4,hc5]; done) | (simp [inzV,inzE,inzX,inzM,inzC,inzA,inzT,aI,hc1,hc2,hc3,hc4,hc5]; split <;> simp_all; done) | (simp_all [inzV,inzE,inzX,inzM,inzC,inzA,inzT,aI]; done)
 have q3 : inzX i V me x0 = x0 := by first | (simp [inzV,inzE,inzX,inzM,inzC,inzA,inzT,aI,hc1,hc2,hc3,hc4,hc5]; done) | (simp [inzV,inzE,inzX,inzM,inzC,inzA,inzT,aI,hc1,hc2,hc3,hc4,hc5]; split <;> simp_all; done) | (simp_all [inzV,inzE,inzX,inzM,inzC,inzA,inzT,aI]; done)
 have q4 : inzM i V me = me := by first | (simp [inzV,inzE,inzX,inzM,inzC,inzA,inzT,aI,hc1,hc2,hc3,hc4,hc5]; done) | (simp [inzV,inzE,inzX,inzM,inzC,inzA,inzT,aI,hc1,hc2,hc3,hc4,hc5]; split <;> simp_all; done) | (simp_all [inzV,inzE,inzX,inzM,inzC,inzA,inzT,aI]; done)
 have q5 : inzC i V cl = cl ++ ([⟨i.Imm,List.map V i.Args⟩]) := by first | (simp [inzV,inzE,inzX,inzM,inzC,inzA,inzT,aI,hc1,hc2,hc3,hc4,hc5]; done) | (simp [inzV,inzE,inzX,inzM,inzC,inzA,inzT,aI,hc1,hc2,hc3,hc4,hc5]; split <;> simp_all; done) | (simp_all [inzV,inzE,inzX,inzM,inzC,inzA,inzT,aI]; done)
 have q6 : inzA i an = List.drop 1 an := by first | (simp [inzV,inzE,inzX,inzM,inzC,inzA,inzT,aI,hc1,hc2,hc3,hc4,hc5]; done) | (simp [inzV,inzE,inzX,inzM,inzC,inzA,inzT,aI,hc1,hc2,hc3,hc4,hc5]; split <;> simp_all; done) | (simp_all [inzV,inzE,inzX,inzM,inzC,inzA,inzT,aI]; done)
 simp only [q1,q2,q3,q4,q5,q6]
 exact jd0 Z (v104,(resl 1 av 1 (List.length an))) Z (dc (dlo d13 1 (by omega) (by omega)) dn) (fun _ _ => (kd (kc k3 (kc k0 kn))))
 refine jve U70 U3 J21 k0 Z Z fun u138 s138 => jyn d0 (kc k3 (kc k3 kn)) (jy Z (jex' Z Z) (jyo Z (js (jl k1 O23 Z Z) (jyn d0 (kc k3 (kc k3 kn)) (jy Z (jix (i := 0) U23 Z21 d7 Z Z Z (by omega)) (jy Z (jlI (dix d7 0 (by omega)) O21 Z) (jyo Z (jvs k0 Z Z Z (wad (dix d12 0 (by omega))) (jyn d0 (kc k3 (kc k3 kn)) (jy Z (jnil Z) ?_))))))))))
 refine jy Z (jf F72_2 Z) (jyo Z (jdq (dlo d13 1 (by omega) (by omega)) fun q35 w35 => jst k1 Z23 Z Z w35.one s6 (jyn d0 (kc k3 (kc k3 kn)) (jyd (jbn ?_)))))
 have q1 : inzV i V me an = setV (setV V i.Dst 0) i.Dst (ix an 0) := by first | (simp [inzV,inzE,inzX,inzM,inzC,inzA,inzT,aI,hc1,hc2,hc3,hc4,hc5]; done) | (simp [inzV,inzE,inzX,inzM,inzC,inzA,inzT,aI,hc1,hc2,hc3,hc4,hc5]; split <;> simp_all; done) | (simp_all [inzV,inzE,inzX,inzM,inzC,inzA,inzT,aI]; done)
 have q2 : inzE i V me e0 = e0 := by first | (simp [inzV,inzE,inzX,inzM,inzC,inzA,inzT,aI,hc1,hc2,hc3,hc4,hc5]; done) | (simp [inzV,inzE,inzX,inzM,inzC,inzA,inzT,aI,hc1,hc2,hc3,hc4,hc5]; split <;> simp_all; done) | (simp_all [inzV,inzE,inzX,inzM,inzC,inzA,inzT,aI]; done)
 have q3 : inzX i V me x0 = x0 := by first | (simp [inzV,inzE,inzX,inzM,inzC,inzA,inzT,aI,hc1,hc2,hc3,hc4,hc5]; done) | (simp [inzV,inzE,inzX,inzM,inzC,inzA,inzT,aI,hc1,hc2,hc3,hc4,hc5]; split <;> simp_all; done) | (simp_all [inzV,inzE,inzX,inzM,inzC,inzA,inzT,aI]; done)
 have q4 : inzM i V me = me := by first | (simp [inzV,inzE,inzX,inzM,inzC,inzA,inzT,aI,hc1,hc2,hc3,hc4,hc5]; done) | (simp [inzV,inzE,inzX,inzM,inzC,inzA,inzT,aI,hc1,hc2,hc3,hc4,hc5]; split <;> simp_all; done) | (simp_all [inzV,inzE,inzX,inzM,inzC,inzA,inzT,aI]; done)
 have q5 : inzC i V cl = cl ++ ([⟨i.Imm,List.map V i.Args⟩]) := by first | (simp [inzV,inzE,inzX,inzM,inzC,inzA,inzT,aI,hc1,hc2,hc3,hc4,hc5]; done) | (simp [inzV,inzE,inzX,inzM,inzC,inzA,inzT,aI,hc1,hc2,hc3,hc4,hc5]; split <;> simp_all; done) | (simp_all [inzV,inzE,inzX,inzM,inzC,inzA,inzT,aI]; done)
 have q6 : inzA i an = List.drop 1 an := by first | (simp [inzV,inzE,inzX,inzM,inzC,inzA,inzT,aI,hc1,hc2,hc3,hc4,hc5]; done) | (simp [inzV,inzE,inzX,inzM,inzC,inzA,inzT,aI,hc1,hc2,hc3,hc4,hc5]; split <;> simp_all; done) | (simp_all [inzV,inzE,inzX,inzM,inzC,inzA,inzT,aI]; done)
 simp only [q1,q2,q3,q4,q5,q6]
 exact jd0 Z (v104,(resl 1 av 1 (List.length an))) Z (dc (dlo d13 1 (by omega) (by omega)) dn) (fun _ _ => (kd (kc k3 (kc k0 kn))))
 refine js (jl k1 O23 Z Z) (jyn d0 (kc k3 (kc k3 kn)) (jy Z (jix (i := 0) U23 Z21 d7 Z Z Z (by omega)) (jy Z (jlI (dix d7 0 (by omega)) O21 Z) (jyo Z (js (jl k1 O70 Z Z) (jyn d0 (kc k3 (kc k3 kn)) (jyo Z (jve U70 U3 J21 k0 Z Z fun u138 s138 => jyn d0 (kc k3 (kc k3 kn)) (jy Z (jex' Z Z) (jyo Z ?_))))))))))
 refine jvs k0 Z Z Z (wad (dix d12 0 (by omega))) (jyn d0 (kc k3 (kc k3 kn)) (jy Z (jnil Z) (jy Z (jf F72_2 Z) (jyo Z (jdq (dlo d13 1 (by omega) (by omega)) fun q35 w35 => jst k1 Z23 Z Z w35.one s6 (jyn d0 (kc k3 (kc k3 kn)) (jyd (jbn ?_))))))))
 have q1 : inzV i V me an = setV (setV V i.Dst 0) i.Dst (ix an 0) := by first | (simp [inzV,inzE,inzX,inzM,inzC,inzA,inzT,aI,hc1,hc2,hc3,hc4,hc5]; done) | (simp [inzV,inzE,inzX,inzM,inzC,inzA,inzT,aI,hc1,hc2,hc3,hc4,hc5]; split <;> simp_all; done) | (simp_all [inzV,inzE,inzX,inzM,inzC,inzA,inzT,aI]; done)
 have q2 : inzE i V me e0 = e0 := by first | (simp [inzV,inzE,inzX,inzM,inzC,inzA,inzT,aI,hc1,hc2,hc3,hc4,hc5]; done) | (simp [inzV,inzE,inzX,inzM,inzC,inzA,inzT,aI,hc1,hc2,hc3,hc4,hc5]; split <;> simp_all; done) | (simp_all [inzV,inzE,inzX,inzM,inzC,inzA,inzT,aI]; done)
 have q3 : inzX i V me x0 = x0 := by first | (simp [inzV,inzE,inzX,inzM,inzC,inzA,inzT,aI,hc1,hc2,hc3,hc4,hc5]; done) | (simp [inzV,inzE,inzX,inzM,inzC,inzA,inzT,aI,hc1,hc2,hc3,hc4,hc5]; split <;> simp_all; done) | (simp_all [inzV,inzE,inzX,inzM,inzC,inzA,inzT,aI]; done)
 have q4 : inzM i V me = me := by first | (simp [inzV,inzE,inzX,inzM,inzC,inzA,inzT,aI,hc1,hc2,hc3,hc4,hc5]; done) | (simp [inzV,inzE,inzX,inzM,inzC,inzA,inzT,aI,hc1,hc2,hc3,hc4,hc5]; split <;> simp_all; done) | (simp_all [inzV,inzE,inzX,inzM,inzC,inzA,inzT,aI]; done)
 have q5 : inzC i V cl = cl ++ ([⟨i.Imm,List.map V i.Args⟩]) := by first | (simp [inzV,inzE,inzX,inzM,inzC,inzA,inzT,aI,hc1,hc2,hc3,hc4,hc5]; done) | (simp [inzV,inzE,inzX,inzM,inzC,inzA,inzT,aI,hc1,hc2,hc3,hc4,hc5]; split <;> simp_all; done) | (simp_all [inzV,inzE,inzX,inzM,inzC,inzA,inzT,aI]; done)
 have q6 : inzA i an = List.drop 1 an := by first | (simp [inzV,inzE,inzX,inzM,inzC,inzA,inzT,aI,hc1,hc2,hc3,hc4,hc5]; done) | (simp [inzV,inzE,inzX,inzM,inzC,inzA,inzT,aI,hc1,hc2,hc3,hc4,hc5]; split <;> simp_all; done) | (simp_all [inzV,inzE,inzX,inzM,inzC,inzA,inzT,aI]; done)
 simp only [q1,q2,q3,q4,q5,q6]
 exact jd0 Z (v104,(resl 1 av 1 (List.length an))) Z (dc (dlo d13 1 (by omega) (by omega)) dn) (fun _ _ => (kd (kc k3 (kc k0 kn))))
 refine jsk (jbn ?_)
 have q1 : inzV i V me an = setV V i.Dst 0 := by first | (simp [inzV,inzE,inzX,inzM,inzC,inzA,inzT,aI,hc1,hc2,hc3,hc4,hc5]; done) | (simp [inzV,inzE,inzX,inzM,inzC,inzA,inzT,aI,hc1,hc2,hc3,hc4,hc5]; split <;> simp_all; done) | (simp_all [inzV,inzE,inzX,inzM,inzC,inzA,inzT,aI]; done)
 have q2 : inzE i V me e0 = e0 := by first | (simp [inzV,inzE,inzX,inzM,inzC,inzA,inzT,aI,hc1,hc2,hc3,hc4,hc5]; done) | (simp [inzV,inzE,inzX,inzM,inzC,inzA,inzT,aI,hc1,hc2,hc3,hc4,hc5]; split <;> simp_all; done) | (simp_all [inzV,inzE,inzX,inzM,inzC,inzA,inzT,aI]; done)
 have q3 : inzX i V me x0 = x0 := by first | (simp [inzV,inzE,inzX,inzM,inzC,inzA,inzT,aI,hc1,hc2,hc3,hc4,hc5]; done) | (simp [inzV,inzE,inzX,inzM,inzC,inzA,inzT,aI,hc1,hc2,hc3,hc4,hc5]; split <;> simp_all; done) | (simp_all [inzV,inzE,inzX,inzM,inzC,inzA,inzT,aI]; done)
 have q4 : inzM i V me = me := by first | (simp [inzV,inzE,inzX,inzM,inzC,inzA,inzT,aI,hc1,hc2,hc3,hc4,hc5]; done) | (simp [inzV,inzE,inzX,inzM,inzC,inzA,inzT,aI,hc1,hc2,hc3,hc4,hc5]; split <;> simp_all; done) | (simp_all [inzV,inzE,inzX,inzM,inzC,inzA,inzT,aI]; done)
 have q5 : inzC i V cl = cl ++ ([⟨i.Imm,List.map V i.Args⟩]) := by first | (simp [inzV,inzE,inzX,inzM,inzC,inzA,inzT,aI,hc1,hc2,hc3,hc4,hc5]; done) | (simp [inzV,inzE,inzX,inzM,inzC,inzA,inzT,aI,hc1,hc2,hc3,hc4,hc5]; split <;> simp_all; done) | (simp_all [inzV,inzE,inzX,inzM,inzC,inzA,inzT,aI]; done)
 have q6 : inzA i an = an := by first | (simp [inzV,inzE,inzX,inzM,inzC,inzA,inzT,aI,hc1,hc2,hc3,hc4,hc5]; done) | (simp [inzV,inzE,inzX,inzM,inzC,inzA,inzT,aI,hc1,hc2,hc3,hc4,hc5]; split <;> simp_all; done) | (simp_all [inzV,inzE,inzX,inzM,inzC,inzA,inzT,aI]; done)
 simp only [q1,q2,q3,q4,q5,q6]
 exact jd0 Z (v104,av) Z (dc d7 dn) (fun _ _ => (kc k1 (kc k0 (kc k3 (kc k0 kn)))))
 refine jfz k2 (by (try simp) <;> omega) (jlit (r := rEvent) (l := [⟨i.Imm,List.map V i.Args⟩]) U24 I60 (by decide) Z Z Z (lA (rEvent.M (m := ⟨i.Imm,List.map V i.Args⟩) (c := v11) d0 (rIns.W_Imm d3)) ln) fun g103 => jyn d1 (kc k3 (kc k3 kn)) (jyo Z (js (jl k1 O24 Z Z) (jyn d0 (kc k3 (kc k3 kn)) (jyo Z (jfz k0 (by (try simp) <;> omega) (japl U24 I60 (by decide) Z k5 Z Z d0 (by (try simp) <;> omega) fun v104 w24 => jyn d1 (kc k3 (kc k3 kn)) (jy Z (jnil Z) (jy Z (jf F72_1 Z) ?_)))))))))
 refine jy Z (jf F26_3 Z) (jyo Z (jst k1 Z24 Z Z w24.one s4 (jyn d0 (kc k3 (kc k3 kn)) (jyd (jx (jq (jany false (.a 0 (.a 1 (.a 2 (.a 3 (.a 4 (.a 5 (.o 6 .e))))))) Mixed (by kernel_rfl) (kc k0 (kc k2 (kc k2 kn))) fun F26 => jy Z (jl k2 O69 Z Z) (jy Z (jnil Z) (jy Z (jf F72_0 Z) (jy Z (jl k0 O70 Z Z) ?_))))))))))
 refine jy Z (jf F34_1 Z) (jy Z (jl k1 O3 Z Z) (jyo Z (jvu U70 U3 k2 Z Z Z (wl 0) (jyn d0 (kc k1 (kc k2 (kc k2 kn))) (jyd (jx (jq (jr (js (jl k4 O69 Z Z) (js (jnil Z) (js (jf F72_2 Z) ?_)))))))))))
 refine js (jl k1 O23 Z Z) (js (jln U23 d7 Z) (js (jgtr Z Z) (jn (jx ?_))))
 refine jif Z (fun hc5 => ?_) (fun hc5 => ?_)
 refine jany false (.a 0 (.a 1 (.a 2 (.a 4 (.a 5 (.a 6 (.a 7 (.a 8 (.a 9 (.a 13 (.a 14 (.a 15 (.w3 3 10 16 (.w 10 16 (.a 11 (.a 12 (.o 16 (.a 17 (.o 18 (.a 19 (.o 20 (.a 21 (.a 22 (.o 23 .e)))))))))) (.a 17 (.w 10 18 (.a 11 (.a 12 (.o 18 (.a 19 (.o 20 (.a 21 (.a 22 (.o 23 .e)))))))) (.a 19 (.o 10 (.a 11 (.a 12 (.o 20 (.a 21 (.a 22 (.o 23 .e))))))))))) (.a 11 (.a 12 (.w 3 16 (.o 16 (.a 17 (.o 18 (.a 19 (.o 20 (.a 21 (.a 22 (.o 23 .e)))))))) (.a 17 (.o 3 (.o 18 (.a 19 (.o 20 (.a 21 (.a 22 (.o 23 .e))))))))))) (.a 17 (.w 3 10 (.w 10 18 (.a 11 (.a 12 (.o 18 (.a 19 (.o 20 (.a 21 (.a 22 (.o 23 .e)))))))) (.a 19 (.o 10 (.a 11 (.a 12 (.o 20 (.a 21 (.a 22 (.o 23 .e))))))))) (.a 11 (.a 12 (.o 3 (.o 18 (.a 19 (.o 20 (.a 21 (.a 22 (.o 23 .e)))))))))))))))))))))))) Mixed (by kernel_rfl) (kc k3 (kc k3 kn)) fun F28 => jy Z (jl k1 O69 Z Z) (jy Z (jnil Z) (jy Z (jf F72_0 Z) (jy Z (jf F34_1 Z) (jy Z (jl k0 O3 Z Z) (jy Z (jl k1 O69 Z Z) (jy Z (jl k1 O69 Z Z) (jy Z (jnil Z) (jy Z (jf F72_2 Z) (jy Z (jl k1 O69 Z Z) (jy Z (jnil Z) ?_))))))))))
 refine jy Z (jf F72_2 Z) ?_
 refine jyw3 Z Z Z ?_ ?_ ?_
 refine js (jl k1 O70 Z Z) (jyn d0 (kc k3 (kc k3 kn)) ?_)
 refine jyw Z Z ?_ ?_
 refine js (jl k1 O23 Z Z) (jyn d0 (kc k3 (kc k3 kn)) (jy Z (jix (i := 0) U23 Z21 d7 Z Z Z (by omega)) (jy Z (jlI (dix d7 0 (by omega)) O21 Z) (jyo Z (js (jl k1 O23 Z Z) (jyn d0 (kc k3 (kc k3 kn)) (jy Z (jslo (lo := 1) U23 Z21 d7 Z Z Z (by omega)) (jyo Z (jve U70 U3 J21 k0 Z Z fun u138 s138 => jyn d0 (kc k3 (kc k3 kn)) (jy Z (jex' Z Z) ?_))))))))))
 refine jyo Z (jvs k0 Z Z Z (wad (dix d12 0 (by omega))) (jyn d0 (kc k3 (kc k3 kn)) (jy Z (jnil Z) (jy Z (jf F72_2 Z) (jyo Z (jdq (dlo d13 1 (by omega) (by omega)) fun q35 w35 => jst k1 Z23 Z Z w35.one s6 (jyn d0 (kc k3 (kc k3 kn)) (jyd (jbn ?_)))))))))
 have q1 : inzV i V me an = setV (setV V i.Dst 0) i.Dst (ix an 0) := by first | (simp [inzV,inzE,inzX,inzM,inzC,inzA,inzT,aI,hc1,hc2,hc3,hc4,hc5]; done) | (simp [inzV,inzE,inzX,inzM,inzC,inzA,inzT,aI,hc1,hc2,hc3,hc4,hc5]; split <;> simp_all; done) | (simp_all [inzV,inzE,inzX,inzM,inzC,inzA,inzT,aI]; done)
 have q2 : inzE i V me e0 = e0 := by first | (simp [inzV,inzE,inzX,inzM,inzC,inzA,inzT,aI,hc1,hc2,hc3,hc4,hc5]; done) | (simp [inzV,inzE,inzX,inzM,inzC,inzA,inzT,aI,hc1,hc2,hc3,hc4,hc5]; split <;> simp_all; done) | (simp_all [inzV,inzE,inzX,inzM,inzC,inzA,inzT,aI]; done)
 have q3 : inzX i V me x0 = x0 := by first | (simp [inzV,inzE,inzX,inzM,inzC,inzA,inzT,aI,hc1,hc2,hc3,hc4,hc5]; done) | (simp [inzV,inzE,inzX,inzM,inzC,inzA,inzT,aI,hc1,hc2,hc3,hc4,hc5]; split <;> simp_all; done) | (simp_all [inzV,inzE,inzX,inzM,inzC,inzA,inzT,aI]; done)
 have q4 : inzM i V me = me := by first | (simp [inzV,inzE,inzX,inzM,inzC,inzA,inzT,aI,hc1,hc2,hc3,hc4,hc5]; done) | (simp [inzV,inzE,inzX,inzM,inzC,inzA,inzT,aI,hc1,hc2,hc3,hc4,hc5]; split <;> simp_all; done) | (simp_all [inzV,inzE,inzX,inzM,inzC,inzA,inzT,aI]; done)
 have q5 : inzC i V cl = cl ++ ([⟨i.Imm,List.map V i.Args⟩]) := by first | (simp [inzV,inzE,inzX,inzM,inzC,inzA,inzT,aI,hc1,hc2,hc3,hc4,hc5]; done) | (simp [inzV,inzE,inzX,inzM,inzC,inzA,inzT,aI,hc1,hc2,hc3,hc4,hc5]; split <;> simp_all; done) | (simp_all [inzV,inzE,inzX,inzM,inzC,inzA,inzT,aI]; done)
 have q6 : inzA i an = List.drop 1 an := by first | (simp [inzV,inzE,inzX,inzM,inzC,inzA,inzT,aI,hc1,hc2,hc3,hc4,hc5]; done) | (simp [inzV,inzE,inzX,inzM,inzC,inzA,inzT,aI,hc1,hc2,hc3,hc4,hc5]; split <;> simp_all; done) | (simp_all [inzV,inzE,inzX,inzM,inzC,inzA,inzT,aI]; done)
 simp only [q1,q2,q3,q4,q5,q6]
 exact jd0 Z (v104,(resl 1 av 1 (List.length an))) Z (dc (dlo d13 1 (by omega) (by omega)) dn) (fun _ _ => (kd (kc k3 (kc k0 kn))))
 refine js (jl k1 O23 Z Z) (jyn d0 (kc k3 (kc k3 kn)) (jy Z (jslo (lo := 1) U23 Z21 d7 Z Z Z (by omega)) ?_))
 refine jyw Z Z ?_ ?_
 refine js (jl k1 O23 Z Z) (jyn d0 (kc k3 (kc k3 kn)) (jy Z (jix (i := 0) U23 Z21 d7 Z Z Z (by omega)) (jy Z (jlI (dix d7 0 (by omega)) O21 Z) (jyo Z (jve U70 U3 J21 k0 Z Z fun u138 s138 => jyn d0 (kc k3 (kc k3 kn)) (jy Z (jex' Z Z) (jyo Z (jvs k0 Z Z Z (wad (dix d12 0 (by omega))) (jyn d0 (kc k3 (kc k3 kn)) (jy Z (jnil Z) ?_))))))))))
 refine jy Z (jf F72_2 Z) (jyo Z (jdq (dlo d13 1 (by omega) (by omega)) fun q35 w35 => jst k1 Z23 Z Z w35.one s6 (jyn d0 (kc k3 (kc k3 kn)) (jyd (jbn ?_)))))
 have q1 : inzV i V me an = setV (setV V i.Dst 0) i.Dst (ix an 0) := by first | (simp [inzV,inzE,inzX,inzM,inzC,inzA,inzT,aI,hc1,hc2,hc3,hc4,hc5]; done) | (simp [inzV,inzE,inzX,inzM,inzC,inzA,inzT,aI,hc1,hc2,hc3,hc4,hc5]; split <;> simp_all; done) | (simp_all [inzV,inzE,inzX,inzM,inzC,inzA,inzT,aI]; done)
 have q2 : inzE i V me e0 = e0 := by first | (simp [inzV,inzE,inzX,inzM,inzC,inzA,inzT,aI,hc1,hc2,hc3,hc4,hc5]; done) | (simp [inzV,inzE,inzX,inzM,inzC,inzA,inzT,aI,hc1,hc2,hc3,hc4,hc5]; split <;> simp_all; done) | (simp_all [inzV,inzE,inzX,inzM,inzC,inzA,inzT,aI]; done)
 have q3 : inzX i V me x0 = x0 := by first | (simp [inzV,inzE,inzX,inzM,inzC,inzA,inzT,aI,hc1,hc2,hc3,hc4,hc5]; done) | (simp [inzV,inzE,inzX,inzM,inzC,inzA,inzT,aI,hc1,hc2,hc3,hc4,hc5]; split <;> simp_all; done) | (simp_all [inzV,inzE,inzX,inzM,inzC,inzA,inzT,aI]; done)
 have q4 : inzM i V me = me := by first | (simp [inzV,inzE,inzX,inzM,inzC,inzA,inzT,aI,hc1,hc2,hc3,hc4,hc5]; done) | (simp [inzV,inzE,inzX,inzM,inzC,inzA,inzT,aI,hc1,hc2,hc3,hc4,hc5]; split <;> simp_all; done) | (simp_all [inzV,inzE,inzX,inzM,inzC,inzA,inzT,aI]; done)
 have q5 : inzC i V cl = cl ++ ([⟨i.Imm,List.map V i.Args⟩]) := by first | (simp [inzV,inzE,inzX,inzM,inzC,inzA,inzT,aI,hc1,hc2,hc3,hc4,hc5]; done) | (simp [inzV,inzE,inzX,inzM,inzC,inzA,inzT,aI,hc1,hc2,hc3,hc4,hc5]; split <;> simp_all; done) | (simp_all [inzV,inzE,inzX,inzM,inzC,inzA,inzT,aI]; done)
 have q6 : inzA i an = List.drop 1 an := by first | (simp [inzV,inzE,inzX,inzM,inzC,inzA,inzT,aI,hc1,hc2,hc3,hc4,hc5]; done) | (simp [inzV,inzE,inzX,inzM,inzC,inzA,inzT,aI,hc1,hc2,hc3,hc4,hc5]; split <;> simp_all; done) | (simp_all [inzV,inzE,inzX,inzM,inzC,inzA,inzT,aI]; done)
 simp only [q1,q2,q3,q4,q5,q6]
 exact jd0 Z (v104,(resl 1 av 1 (List.length an))) Z (dc (dlo d13 1 (by omega) (by omega)) dn) (fun _ _ => (kd (kc k3 (kc k0 kn))))
 refine jve U70 U3 J21 k0 Z Z fun u138 s138 => jyn d0 (kc k3 (kc k3 kn)) (jy Z (jex' Z Z) (jyo Z (js (jl k1 O23 Z Z) (jyn d0 (kc k3 (kc k3 kn)) (jy Z (jix (i := 0) U23 Z21 d7 Z Z Z (by omega)) (jy Z (jlI (dix d7 0 (by omega)) O21 Z) (jyo Z (jvs k0 Z Z Z (wad (dix d12 0 (by omega))) (jyn d0 (kc k3 (kc k3 kn)) (jy Z (jnil Z) ?_))))))))))
 refine jy Z (jf F72_2 Z) (jyo Z (jdq (dlo d13 1 (by omega) (by omega)) fun q35 w35 => jst k1 Z23 Z Z w35.one s6 (jyn d0 (kc k3 (kc k3 kn)) (jyd (jbn ?_)))))
 have q1 : inzV i V me an = setV (setV V i.Dst 0) i.Dst (ix an 0) := by first | (simp [inzV,inzE,inzX,inzM,inzC,inzA,inzT,aI,hc1,hc2,hc3,hc4,hc5]; done) | (simp [inzV,inzE,inzX,inzM,inzC,inzA,inzT,aI,hc1,hc2,hc3,hc4,hc5]; split <;> simp_all; done) | (simp_all [inzV,inzE,inzX,inzM,inzC,inzA,inzT,aI]; done)
 have q2 : inzE i V me e0 = e0 := by first | (simp [inzV,inzE,inzX,inzM,inzC,inzA,inzT,aI,hc1,hc2,hc3,hc4,hc5]; done) | (simp [inzV,inzE,inzX,inzM,inzC,inzA,inzT,aI,hc1,hc2,hc3,hc4,hc5]; split <;> simp_all; done) | (simp_all [inzV,inzE,inzX,inzM,inzC,inzA,inzT,aI]; done)
 have q3 : inzX i V me x0 = x0 := by first | (simp [inzV,inzE,inzX,inzM,inzC,inzA,inzT,aI,hc1,hc2,hc3,hc4,hc5]; done) | (simp [inzV,inzE,inzX,inzM,inzC,inzA,inzT,aI,hc1,hc2,hc3,hc4,hc5]; split <;> simp_all; done) | (simp_all [inzV,inzE,inzX,inzM,inzC,inzA,inzT,aI]; done)
 have q4 : inzM i V me = me := by first | (simp [inzV,inzE,inzX,inzM,inzC,inzA,inzT,aI,hc1,hc2,hc3,hc4,hc5]; done) | (simp [inzV,inzE,inzX,inzM,inzC,inzA,inzT,aI,hc1,hc2,hc3,hc4,hc5]; split <;> simp_all; done) | (simp_all [inzV,inzE,inzX,inzM,inzC,inzA,inzT,aI]; done)
 have q5 : inzC i V cl = cl ++ ([⟨i.Imm,List.map V i.Args⟩]) := by first | (simp [inzV,inzE,inzX,inzM,inzC,inzA,inzT,aI,hc1,hc2,hc3,hc4,hc5]; done) | (simp [inzV,inzE,inzX,inzM,inzC,inzA,inzT,aI,hc1,hc2,hc3,hc4,hc5]; split <;> simp_all; done) | (simp_all [inzV,inzE,inzX,inzM,inzC,inzA,inzT,aI]; done)
 have q6 : inzA i an = List.drop 1 an := by first | (simp [inzV,inzE,inzX,inzM,inzC,inzA,inzT,aI,hc1,hc2,hc3,hc4,hc5]; done) | (simp [inzV,inzE,inzX,inzM,inzC,inzA,inzT,aI,hc1,hc2,hc3,hc4,hc5]; split <;> simp_all; done) | (simp_all [inzV,inzE,inzX,inzM,inzC,inzA,inzT,aI]; done)
 simp only [q1,q2,q3,q4,q5,q6]
 exact jd0 Z (v104,(resl 1 av 1 (List.length an))) Z (dc (dlo d13 1 (by omega) (by omega)) dn) (fun _ _ => (kd (kc k3 (kc k0 kn))))
 refine js (jl k1 O23 Z Z) (jyn d0 (kc k3 (kc k3 kn)) (jy Z (jix (i := 0) U23 Z21 d7 Z Z Z (by omega)) (jy Z (jlI (dix d7 0 (by omega)) O21 Z) ?_)))
 refine jyw Z Z ?_ ?_
 refine js (jl k1 O70 Z Z) (jyn d0 (kc k3 (kc k3 kn)) (jyo Z (js (jl k1 O23 Z Z) (jyn d0 (kc k3 (kc k3 kn)) (jy Z (jslo (lo := 1) U23 Z21 d7 Z Z Z (by omega)) (jyo Z (jve U70 U3 J21 k0 Z Z fun u138 s138 => jyn d0 (kc k3 (kc k3 kn)) (jy Z (jex' Z Z) (jyo Z (jvs k0 Z Z Z (wad (dix d12 0 (by omega))) ?_))))))))))
 refine jyn d0 (kc k3 (kc k3 kn)) (jy Z (jnil Z) (jy Z (jf F72_2 Z) (jyo Z (jdq (dlo d13 1 (by omega) (by omega)) fun q35 w35 => jst k1 Z23 Z Z w35.one s6 (jyn d0 (kc k3 (kc k3 kn)) (jyd (jbn ?_)))))))
 have q1 : inzV i V me an = setV (setV V i.Dst 0) i.Dst (ix an 0) := by first | (simp [inzV,inzE,inzX,inzM,inzC,inzA,inzT,aI,hc1,hc2,hc3,hc4,hc5]; done) | (simp [inzV,inzE,inzX,inzM,inzC,inzA,inzT,aI,hc1,hc2,hc3,hc4,hc5]; split <;> simp_all; done) | (simp_all [inzV,inzE,inzX,inzM,inzC,inzA,inzT,aI]; done)
 have q2 : inzE i V me e0 = e0 := by first | (simp [inzV,inzE,inzX,inzM,inzC,inzA,inzT,aI,hc1,hc2,hc3,hc4,hc5]; done) | (simp [inzV,inzE,inzX,inzM,inzC,inzA,inzT,aI,hc1,hc2,hc3,hc4,hc5]; split <;> simp_all; done) | (simp_all [inzV,inzE,inzX,inzM,inzC,inzA,inzT,aI]; done)
 have q3 : inzX i V me x0 = x0 := by first | (simp [inzV,inzE,inzX,inzM,inzC,inzA,inzT,aI,hc1,hc2,hc3,hc4,hc5]; done) | (simp [inzV,inzE,inzX,inzM,inzC,inzA,inzT,aI,hc1,hc2,hc3,hc4,hc5]; split <;> simp_all; done) | (simp_all [inzV,inzE,inzX,inzM,inzC,inzA,inzT,aI]; done)
 have q4 : inzM i V me = me := by first | (simp [inzV,inzE,inzX,inzM,inzC,inzA,inzT,aI,hc1,hc2,hc3,hc4,hc5]; done) | (simp [inzV,inzE,inzX,inzM,inzC,inzA,inzT,aI,hc1,hc2,hc3,hc4,hc5]; split <;> simp_all; done) | (simp_all [inzV,inzE,inzX,inzM,inzC,inzA,inzT,aI]; done)
 have q5 : inzC i V cl = cl ++ ([⟨i.Imm,List.map V i.Args⟩]) := by first | (simp [inzV,inzE,inzX,inzM,inzC,inzA,inzT,aI,hc1,hc2,hc3,hc4,hc5]; done) | (simp [inzV,inzE,inzX,inzM,inzC,inzA,inzT,aI,hc1,hc2,hc3,hc4,hc5]; split <;> simp_all; done) | (simp_all [inzV,inzE,inzX,inzM,inzC,inzA,inzT,aI]; done)
 have q6 : inzA i an = List.drop 1 an := by first | (simp [inzV,inzE,inzX,inzM,inzC,inzA,inzT,aI,hc1,hc2,hc3,hc4,hc5]; done) | (simp [inzV,inzE,inzX,inzM,inzC,inzA,inzT,aI,hc1,hc2,hc3,hc4,hc5]; split <;> simp_all; done) | (simp_all [inzV,inzE,inzX,inzM,inzC,inzA,inzT,aI]; done)
 simp only [q1,q2,q3,q4,q5,q6]
 exact jd0 Z (v104,(resl 1 av 1 (List.length an))) Z (dc (dlo d13 1 (by omega) (by omega)) dn) (fun _ _ => (kd (kc k3 (kc k0 kn))))
 refine js (jl k1 O23 Z Z) (jyn d0 (kc k3 (kc k3 kn)) (jy Z (jslo (lo := 1) U23 Z21 d7 Z Z Z (by omega)) (jyo Z (js (jl k1 O70 Z Z) (jyn d0 (kc k3 (kc k3 kn)) (jyo Z (jve U70 U3 J21 k0 Z Z fun u138 s138 => jyn d0 (kc k3 (kc k3 kn)) (jy Z (jex' Z Z) (jyo Z (jvs k0 Z Z Z (wad (dix d12 0 (by omega))) ?_))))))))))
 refine jyn d0 (kc k3 (kc k3 kn)) (jy Z (jnil Z) (jy Z (jf F72_2 Z) (jyo Z (jdq (dlo d13 1 (by omega) (by omega)) fun q35 w35 => jst k1 Z23 Z Z w35.one s6 (jyn d0 (kc k3 (kc k3 kn)) (jyd (jbn ?_)))))))
 have q1 : inzV i V me an = setV (setV V i.Dst 0) i.Dst (ix an 0) := by first | (simp [inzV,inzE,inzX,inzM,inzC,inzA,inzT,aI,hc1,hc2,hc3,hc4,hc5]; done) | (simp [inzV,inzE,inzX,inzM,inzC,inzA,inzT,aI,hc1,hc2,hc3,hc4,hc5]; split <;> simp_all; done) | (simp_all [inzV,inzE,inzX,inzM,inzC,inzA,inzT,aI]; done)
 have q2 : inzE i V me e0 = e0 := by first | (simp [inzV,inzE,inzX,inzM,inzC,inzA,inzT,aI,hc1,hc2,hc3,hc4,hc5]; done) | (simp [inzV,inzE,inzX,inzM,inzC,inzA,inzT,aI,hc1,hc2,hc3,hc4,hc5]; split <;> simp_all; done) | (simp_all [inzV,inzE,inzX,inzM,inzC,inzA,inzT,aI]; done)
 have q3 : inzX i V me x0 = x0 := by first | (simp [inzV,inzE,inzX,inzM,inzC,inzA,inzT,aI,hc1,hc2,hc3,hc4,hc5]; done) | (simp [inzV,inzE,inzX,inzM,inzC,inzA,inzT,aI,hc1,hc2,hc3,hc4,hc5]; split <;> simp_all; done) | (simp_all [inzV,inzE,inzX,inzM,inzC,inzA,inzT,aI]; done)
 have q4 : inzM i V me = me := by first | (simp [inzV,inzE,inzX,inzM,inzC,inzA,inzT,aI,hc1,hc2,hc3,hc4,hc5]; done) | (simp [inzV,inzE,inzX,inzM,inzC,inzA,inzT,aI,hc1,hc2,hc3,hc4,hc5]; split <;> simp_all; done) | (simp_all [inzV,inzE,inzX,inzM,inzC,inzA,inzT,aI]; done)
 have q5 : inzC i V cl = cl ++ ([⟨i.Imm,List.map V i.Args⟩]) := by first | (simp [inzV,inzE,inzX,inzM,inzC,inzA,inzT,aI,hc1,hc2,hc3,hc4,hc5]; done) | (simp [inzV,inzE,inzX,inzM,inzC,inzA,inzT,aI,hc1,hc2,hc3,hc4,hc5]; split <;> simp_all; done) | (simp_all [inzV,inzE,inzX,inzM,inzC,inzA,inzT,aI]; done)
 have q6 : inzA i an = List.drop 1 an := by first | (simp [inzV,inzE,inzX,inzM,inzC,inzA,inzT,aI,hc1,hc2,hc3,hc4,hc5]; done) | (simp [inzV,inzE,inzX,inzM,inzC,inzA,inzT,aI,hc1,hc2,hc3,hc4,hc5]; split <;> simp_all; done) | (simp_all [inzV,inzE,inzX,inzM,inzC,inzA,inzT,aI]; done)
 simp only [q1,q2,q3,q4,q5,q6]
 exact jd0 Z (v104,(resl 1 av 1 (List.length an))) Z (dc (dlo d13 1 (by omega) (by omega)) dn) (fun _ _ => (kd (kc k3 (kc k0 kn))))
 refine js (jl k1 O23 Z Z) (jyn d0 (kc k3 (kc k3 kn)) (jy Z (jslo (lo := 1) U23 Z21 d7 Z Z Z (by omega)) ?_))
 refine jyw Z Z ?_ ?_
 refine js (jl k1 O70 Z Z) (jyn d0 (kc k3 (kc k3 kn)) ?_)
 refine jyw Z Z ?_ ?_
 refine js (jl k1 O23 Z Z) (jyn d0 (kc k3 (kc k3 kn)) (jy Z (jix (i := 0) U23 Z21 d7 Z Z Z (by omega)) (jy Z (jlI (dix d7 0 (by omega)) O21 Z) (jyo Z (jve U70 U3 J21 k0 Z Z fun u138 s138 => jyn d0 (kc k3 (kc k3 kn)) (jy Z (jex' Z Z) (jyo Z (jvs k0 Z Z Z (wad (dix d12 0 (by omega))) (jyn d0 (kc k3 (kc k3 kn)) (jy Z (jnil Z) ?_))))))))))
 refine jy Z (jf F72_2 Z) (jyo Z (jdq (dlo d13 1 (by omega) (by omega)) fun q35 w35 => jst k1 Z23 Z Z w35.one s6 (jyn d0 (kc k3 (kc k3 kn)) (jyd (jbn ?_)))))
 have q1 : inzV i V me an = setV (setV V i.Dst 0) i.Dst (ix an 0) := by first | (simp [inzV,inzE,inzX,inzM,inzC,inzA,inzT,aI,hc1,hc2,hc3,hc4,hc5]; done) | (simp [inzV,inzE,inzX,inzM,inzC,inzA,inzT,aI,hc1,hc2,hc3,hc4,hc5]; split <;> simp_all; done) | (simp_all [inzV,inzE,inzX,inzM,inzC,inzA,inzT,aI]; done)
 have q2 : inzE i V me e0 = e0 := by first | (simp [inzV,inzE,inzX,inzM,inzC,inzA,inzT,aI,hc1,hc2,hc3,hc4,hc5]; done) | (simp [inzV,inzE,inzX,inzM,inzC,inzA,inzT,aI,hc1,hc2,hc3,hc4,hc5]; split <;> simp_all; done) | (simp_all [inzV,inzE,inzX,inzM,inzC,inzA,inzT,aI]; done)
 have q3 : inzX i V me x0 = x0 := by first | (simp [inzV,inzE,inzX,inzM,inzC,inzA,inzT,aI,hc1,hc2,hc3,hc4,hc5]; done) | (simp [inzV,inzE,inzX,inzM,inzC,inzA,inzT,aI,hc1,hc2,hc3,hc4,hc5]; split <;> simp_all; done) | (simp_all [inzV,inzE,inzX,inzM,inzC,inzA,inzT,aI]; done)
 have q4 : inzM i V me = me := by first | (simp [inzV,inzE,inzX,inzM,inzC,inzA,inzT,aI,hc1,hc2,hc3,hc4,hc5]; done) | (simp [inzV,inzE,inzX,inzM,inzC,inzA,inzT,aI,hc1,hc2,hc3,hc4,hc5]; split <;> simp_all; done) | (simp_all [inzV,inzE,inzX,inzM,inzC,inzA,inzT,aI]; done)
 have q5 : inzC i V cl = cl ++ ([⟨i.Imm,List.map V i.Args⟩]) := by first | (simp [inzV,inzE,inzX,inzM,inzC,inzA,inzT,aI,hc1,hc2,hc3,hc4,hc5]; done) | (simp [inzV,inzE,inzX,inzM,inzC,inzA,inzT,aI,hc1,hc2,hc3,hc4,hc5]; split <;> simp_all; done) | (simp_all [inzV,inzE,inzX,inzM,inzC,inzA,inzT,aI]; done)
 have q6 : inzA i an = List.drop 1 an := by first | (simp [inzV,inzE,inzX,inzM,inzC,inzA,inzT,aI,hc1,hc2,hc3,hc4,hc5]; done) | (simp [inzV,inzE,inzX,inzM,inzC,inzA,inzT,aI,hc1,hc2,hc3,hc4,hc5]; split <;> simp_all; done) | (simp_all [inzV,inzE,inzX,inzM,inzC,inzA,inzT,aI]; done)
 simp only [q1,q2,q3,q4,q5,q6]
 exact jd0 Z (v104,(resl 1 av 1 (List.length an))) Z (dc (dlo d13 1 (by omega) (by omega)) dn) (fun _ _ => (kd (kc k3 (kc k0 kn))))
 refine jve U70 U3 J21 k0 Z Z fun u138 s138 => jyn d0 (kc k3 (kc k3 kn)) (jy Z (jex' Z Z) (jyo Z (js (jl k1 O23 Z Z) (jyn d0 (kc k3 (kc k3 kn)) (jy Z (jix (i := 0) U23 Z21 d7 Z Z Z (by omega)) (jy Z (jlI (dix d7 0 (by omega)) O21 Z) (jyo Z (jvs k0 Z Z Z (wad (dix d12 0 (by omega))) (jyn d0 (kc k3 (kc k3 kn)) (jy Z (jnil Z) ?_))))))))))
 refine jy Z (jf F72_2 Z) (jyo Z (jdq (dlo d13 1 (by omega) (by omega)) fun q35 w35 => jst k1 Z23 Z Z w35.one s6 (jyn d0 (kc k3 (kc k3 kn)) (jyd (jbn ?_)))))
 have q1 : inzV i V me an = setV (setV V i.Dst 0) i.Dst (ix an 0) := by first | (simp [inzV,inzE,inzX,inzM,inzC,inzA,inzT,aI,hc1,hc2,hc3,hc4,hc5]; done) | (simp [inzV,inzE,inzX,inzM,inzC,inzA,inzT,aI,hc1,hc2,hc3,hc4,hc5]; split <;> simp_all; done) | (simp_all [inzV,inzE,inzX,inzM,inzC,inzA,inzT,aI]; done)
 have q2 : inzE i V me e0 = e0 := by first | (simp [inzV,inzE,inzX,inzM,inzC,inzA,inzT,aI,hc1,hc2,hc3,hc4,hc5]; done) | (simp [inzV,inzE,inzX,inzM,inzC,inzA,inzT,aI,hc1,hc2,hc3,hc4,hc5]; split <;> simp_all; done) | (simp_all [inzV,inzE,inzX,inzM,inzC,inzA,inzT,aI]; done)
 have q3 : inzX i V me x0 = x0 := by first | (simp [inzV,inzE,inzX,inzM,inzC,inzA,inzT,aI,hc1,hc2,hc3,hc4,hc5]; done) | (simp [inzV,inzE,inzX,inzM,inzC,inzA,inzT,aI,hc1,hc2,hc3,hc4,hc5]; split <;> simp_all; done) | (simp_all [inzV,inzE,inzX,inzM,inzC,inzA,inzT,aI]; done)
 have q4 : inzM i V me = me := by first | (simp [inzV,inzE,inzX,inzM,inzC,inzA,inzT,aI,hc1,hc2,hc3,hc4,hc5]; done) | (simp [inzV,inzE,inzX,inzM,inzC,inzA,inzT,aI,hc1,hc2,hc3,hc4,hc5]; split <;> simp_all; done) | (simp_all [inzV,inzE,inzX,inzM,inzC,inzA,inzT,aI]; done)
 have q5 : inzC i V cl = cl ++ ([⟨i.Imm,List.map V i.Args⟩]) := by first | (simp [inzV,inzE,inzX,inzM,inzC,inzA,inzT,aI,hc1,hc2,hc3,hc4,hc5]; done) | (simp [inzV,inzE,inzX,inzM,inzC,inzA,inzT,aI,hc1,hc2,hc3,hc4,hc5]; split <;> simp_all; done) | (simp_all [inzV,inzE,inzX,inzM,inzC,inzA,inzT,aI]; done)
 have q6 : inzA i an = List.drop 1 an := by first | (simp [inzV,inzE,inzX,inzM,inzC,inzA,inzT,aI,hc1,hc2,hc3,hc4,hc5]; done) | (simp [inzV,inzE,inzX,inzM,inzC,inzA,inzT,aI,hc1,hc2,hc3,hc4,hc5]; split <;> simp_all; done) | (simp_all [inzV,inzE,inzX,inzM,inzC,inzA,inzT,aI]; done)
 simp only [q1,q2,q3,q4,q5,q6]
 exact jd0 Z (v104,(resl 1 av 1 (List.length an))) Z (dc (dlo d13 1 (by omega) (by omega)) dn) (fun _ _ => (kd (kc k3 (kc k0 kn))))
 refine js (jl k1 O23 Z Z) (jyn d0 (kc k3 (kc k3 kn)) (jy Z (jix (i := 0) U23 Z21 d7 Z Z Z (by omega)) (jy Z (jlI (dix d7 0 (by omega)) O21 Z) (jyo Z (js (jl k1 O70 Z Z) (jyn d0 (kc k3 (kc k3 kn)) (jyo Z (jve U70 U3 J21 k0 Z Z fun u138 s138 => jyn d0 (kc k3 (kc k3 kn)) (jy Z (jex' Z Z) (jyo Z ?_))))))))))
 refine jvs k0 Z Z Z (wad (dix d12 0 (by omega))) (jyn d0 (kc k3 (kc k3 kn)) (jy Z (jnil Z) (jy Z (jf F72_2 Z) (jyo Z (jdq (dlo d13 1 (by omega) (by omega)) fun q35 w35 => jst k1 Z23 Z Z w35.one s6 (jyn d0 (kc k3 (kc k3 kn)) (jyd (jbn ?_))))))))
 have q1 : inzV i V me an = setV (setV V i.Dst 0) i.Dst (ix an 0) := by first | (simp [inzV,inzE,inzX,inzM,inzC,inzA,inzT,aI,hc1,hc2,hc3,hc4,hc5]; done) | (simp [inzV,inzE,inzX,inzM,inzC,inzA,inzT,aI,hc1,hc2,hc3,hc4,hc5]; split <;> simp_all; done) | (simp_all [inzV,inzE,inzX,inzM,inzC,inzA,inzT,aI]; done)
 have q2 : inzE i V me e0 = e0 := by first | (simp [inzV,inzE,inzX,inzM,inzC,inzA,inzT,aI,hc1,hc2,hc3,hc4,hc5]; done) | (simp [inzV,inzE,inzX,inzM,inzC,inzA,inzT,aI,hc1,hc2,hc3,hc4,hc5]; split <;> simp_all; done) | (simp_all [inzV,inzE,inzX,inzM,inzC,inzA,inzT,aI]; done)
 have q3 : inzX i V me x0 = x0 := by first | (simp [inzV,inzE,inzX,inzM,inzC,inzA,inzT,aI,hc1,hc2,hc3,hc4,hc5]; done) | (simp [inzV,inzE,inzX,inzM,inzC,inzA,inzT,aI,hc1,hc2,hc3,hc4,hc5]; split <;> simp_all; done) | (simp_all [inzV,inzE,inzX,inzM,inzC,inzA,inzT,aI]; done)
 have q4 : inzM i V me = me := by first | (simp [inzV,inzE,inzX,inzM,inzC,inzA,inzT,aI,hc1,hc2,hc3,hc4,hc5]; done) | (simp [inzV,inzE,inzX,inzM,inzC,inzA,inzT,aI,hc1,hc2,hc3,hc4,hc5]; split <;> simp_all; done) | (simp_all [inzV,inzE,inzX,inzM,inzC,inzA,inzT,aI]; done)
 have q5 : inzC i V cl = cl ++ ([⟨i.Imm,List.map V i.Args⟩]) := by first | (simp [inzV,inzE,inzX,inzM,inzC,inzA,inzT,aI,hc1,hc2,hc3,hc4,hc5]; done) | (simp [inzV,inzE,inzX,inzM,inzC,inzA,inzT,aI,hc1,hc2,hc3,hc4,hc5]; split <;> simp_all; done) | (simp_all [inzV,inzE,inzX,inzM,inzC,inzA,inzT,aI]; done)
 have q6 : inzA i an = List.drop 1 an := by first | (simp [inzV,inzE,inzX,inzM,inzC,inzA,inzT,aI,hc1,hc2,hc3,hc4,hc5]; done) | (simp [inzV,inzE,inzX,inzM,inzC,inzA,inzT,aI,hc1,hc2,hc3,hc4,hc5]; split <;> simp_all; done) | (simp_all [inzV,inzE,inzX,inzM,inzC,inzA,inzT,aI]; done)
 simp only [q1,q2,q3,q4,q5,q6]
 exact jd0 Z (v104,(resl 1 av 1 (List.length an))) Z (dc (dlo d13 1 (by omega) (by omega)) dn) (fun _ _ => (kd (kc k3 (kc k0 kn))))
 refine jsk (jbn ?_)
 have q1 : inzV i V me an = setV V i.Dst 0 := by first | (simp [inzV,inzE,inzX,inzM,inzC,inzA,inzT,aI,hc1,hc2,hc3,hc4,hc5]; done) | (simp [inzV,inzE,inzX,inzM,inzC,inzA,inzT,aI,hc1,hc2,hc3,hc4,hc5]; split <;> simp_all; done) | (simp_all [inzV,inzE,inzX,inzM,inzC,inzA,inzT,aI]; done)
 have q2 : inzE i V me e0 = e0 := by first | (simp [inzV,inzE,inzX,inzM,inzC,inzA,inzT,aI,hc1,hc2,hc3,hc4,hc5]; done) | (simp [inzV,inzE,inzX,inzM,inzC,inzA,inzT,aI,hc1,hc2,hc3,hc4,hc5]; split <;> simp_all; done) | (simp_all [inzV,inzE,inzX,inzM,inzC,inzA,inzT,aI]; done)
 have q3 : inzX i V me x0 = x0 := by first | (simp [inzV,inzE,inzX,inzM,inzC,inzA,inzT,aI,hc1,hc2,hc3,hc4,hc5]; done) | (simp [inzV,inzE,inzX,inzM,inzC,inzA,inzT,aI,hc1,hc2,hc3,hc4,hc5]; split <;> simp_all; done) | (simp_all [inzV,inzE,inzX,inzM,inzC,inzA,inzT,aI]; done)
 have q4 : inzM i V me = me := by first | (simp [inzV,inzE,inzX,inzM,inzC,inzA,inzT,aI,hc1,hc2,hc3,hc4,hc5]; done) | (simp [inzV,inzE,inzX,inzM,inzC,inzA,inzT,aI,hc1,hc2,hc3,hc4,hc5]; split <;> simp_all; done) | (simp_all [inzV,inzE,inzX,inzM,inzC,inzA,inzT,aI]; done)
 have q5 : inzC i V cl = cl ++ ([⟨i.Imm,List.map V i.Args⟩]) := by first | (simp [inzV,inzE,inzX,inzM,inzC,inzA,inzT,aI,hc1,hc2,hc3,hc4,hc5]; done) | (simp [inzV,inzE,inzX,inzM,inzC,inzA,inzT,aI,hc1,hc2,hc3,hc4,hc5]; split <;> simp_all; done) | (simp_all [inzV,inzE,inzX,inzM,inzC,inzA,inzT,aI]; done)
 have q6 : inzA i an = an := by first | (simp [inzV,inzE,inzX,inzM,inzC,inzA,inzT,aI,hc1,hc2,hc3,hc4,hc5]; done) | (simp [inzV,inzE,inzX,inzM,inzC,inzA,inzT,aI,hc1,hc2,hc3,hc4,hc5]; split <;> simp_all; done) | (simp_all [inzV,inzE,inzX,inzM,inzC,inzA,inzT,aI]; done)
 simp only [q1,q2,q3,q4,q5,q6]
 exact jd0 Z (v104,av) Z (dc d7 dn) (fun _ _ => (kc k1 (kc k0 (kc k3 (kc k0 kn)))))
 refine jq (jr (js (jeql Z Z) (ja Z (jn (jx ?_)))))
 refine jif Z (fun hc6 => ?_) (fun hc6 => ?_)
 have ho2 := ho2 hc1 hc2 hc4
 refine jany false (.a 0 (.a 1 (.a 2 (.a 3 (.a 4 (.a 5 (.a 6 (.a 7 (.a 8 (.a 9 (.a 10 (.a 11 (.a 12 (.a 13 (.a 14 (.a 15 (.a 16 (.a 17 (.o 18 (.a 19 (.a 20 (.a 21 (.o 22 (.o 23 .e)))))))))))))))))))))))) Mixed (by kernel_rfl) (kc k0 (kc k1 (kc k1 (kc k1 kn)))) fun F36 => jy Z (jl k3 O69 Z Z) (jy Z (jnil Z) (jy Z (jf F72_0 Z) (jy Z (jl k0 O70 Z Z) (jy Z (jf F34_1 Z) (jy Z (jl k2 O3 Z Z) (jy Z (jl k3 O69 Z Z) (jy Z (jnil Z) (jy Z (jf F72_0 Z) (jy Z (jl k0 O70 Z Z) (jy Z (jf F34_2 Z) ?_))))))))))
 refine jy Z (jl k2 O3 Z Z) (jy Z (jmv Z) (jy Z (jig (i := 0) U23 Z21 k1 Z Z Z (by first | omega | (simp <;> omega))) (jy Z (jgI k1 (by first | omega | (simp <;> omega)) O21 Z) (jy Z (jmv Z) (jy Z (jig (i := 1) U23 Z21 k1 Z Z Z (by first | omega | (simp <;> omega))) (jy Z (jgI k1 (by first | omega | (simp <;> omega)) O21 Z) (jyo Z (jwr (wgl (i := 0) k2 (by omega)) fun w38 => jwr (wgl (i := 1) k2 (by omega)) fun w39 => jcv E15 Z Z (wWide_ct (ix (List.map V i.Args) 0) (ix (List.map V i.Args) 1) w38 w39) dn kn (jyn d0 (kc k0 (kc k1 (kc k1 (kc k1 kn)))) ?_)))))))))
 refine jy Z (jmv Z) (jy Z (jex' Z Z) (jy Z (jex' Z Z) (jyo Z (jvu U70 U3 k1 Z Z Z (wp (JE.wrap_wrap _ _)) (jyn d0 (kc k1 (kc k1 (kc k1 (kc k1 kn)))) (jyo Z (jvu U70 U3 k0 Z Z Z (wp (JE.wrap_wrap _ _)) (jyn d0 (kc k1 (kc k1 (kc k1 (kc k1 kn)))) (jyd (jbn ?_))))))))))
 have q1 : inzV i V me an = setV (setV V i.Dst ((wideM (ix (List.map V i.Args) 0) (ix (List.map V i.Args) 1)).1)) i.Two ((wideM (ix (List.map V i.Args) 0) (ix (List.map V i.Args) 1)).2) := by first | (simp [inzV,inzE,inzX,inzM,inzC,inzA,inzT,aI,hc1,hc2,hc3,hc4,hc6]; done) | (simp [inzV,inzE,inzX,inzM,inzC,inzA,inzT,aI,hc1,hc2,hc3,hc4,hc6]; split <;> simp_all; done) | (simp_all [inzV,inzE,inzX,inzM,inzC,inzA,inzT,aI]; done)
 have q2 : inzE i V me e0 = e0 := by first | (simp [inzV,inzE,inzX,inzM,inzC,inzA,inzT,aI,hc1,hc2,hc3,hc4,hc6]; done) | (simp [inzV,inzE,inzX,inzM,inzC,inzA,inzT,aI,hc1,hc2,hc3,hc4,hc6]; split <;> simp_all; done) | (simp_all [inzV,inzE,inzX,inzM,inzC,inzA,inzT,aI]; done)
 have q3 : inzX i V me x0 = x0 := by first | (simp [inzV,inzE,inzX,inzM,inzC,inzA,inzT,aI,hc1,hc2,hc3,hc4,hc6]; done) | (simp [inzV,inzE,inzX,inzM,inzC,inzA,inzT,aI,hc1,hc2,hc3,hc4,hc6]; split <;> simp_all; done) | (simp_all [inzV,inzE,inzX,inzM,inzC,inzA,inzT,aI]; done)
 have q4 : inzM i V me = me := by first | (simp [inzV,inzE,inzX,inzM,inzC,inzA,inzT,aI,hc1,hc2,hc3,hc4,hc6]; done) | (simp [inzV,inzE,inzX,inzM,inzC,inzA,inzT,aI,hc1,hc2,hc3,hc4,hc6]; split <;> simp_all; done) | (simp_all [inzV,inzE,inzX,inzM,inzC,inzA,inzT,aI]; done)
 have q5 : inzC i V cl = cl := by first | (simp [inzV,inzE,inzX,inzM,inzC,inzA,inzT,aI,hc1,hc2,hc3,hc4,hc6]; done) | (simp [inzV,inzE,inzX,inzM,inzC,inzA,inzT,aI,hc1,hc2,hc3,hc4,hc6]; split <;> simp_all; done) | (simp_all [inzV,inzE,inzX,inzM,inzC,inzA,inzT,aI]; done)
 have q6 : inzA i an = an := by first | (simp [inzV,inzE,inzX,inzM,inzC,inzA,inzT,aI,hc1,hc2,hc3,hc4,hc6]; done) | (simp [inzV,inzE,inzX,inzM,inzC,inzA,inzT,aI,hc1,hc2,hc3,hc4,hc6]; split <;> simp_all; done) | (simp_all [inzV,inzE,inzX,inzM,inzC,inzA,inzT,aI]; done)
 simp only [q1,q2,q3,q4,q5,q6]
 exact jd0 Z (cv,av) Z (dc d3 dn) (fun _ _ => (kc k1 (kc k0 (kc k3 (kc k3 kn)))))
 have ho2 := ho2 hc1 hc2 hc4
 refine jq (jany false (.a 0 (.a 1 (.a 2 (.a 3 (.a 4 (.a 5 (.a 6 (.a 7 (.o 8 (.a 9 (.a 10 (.a 11 (.a 12 (.a 13 .e)))))))))))))) Mixed (by kernel_rfl) (kc k2 (kc k2 kn)) fun F42 => jy Z (jf F34_0 Z) (jy Z (jl k1 O3 Z Z) (jy Z (jmv Z) (jy Z (jig (i := 0) U23 Z21 k0 Z Z Z (by first | omega | (simp <;> omega))) (jy Z (jgI k0 (by first | omega | (simp <;> omega)) O21 Z) (jy Z (jmv Z) (jy Z (jig (i := 1) U23 Z21 k0 Z Z Z (by first | omega | (simp <;> omega))) (jy Z (jgI k0 (by first | omega | (simp <;> omega)) O21 Z) (jyo Z (jcv E14 Z Z (wDo_ct i.Op (ix (List.map V i.Args) 0) (ix (List.map V i.Args) 1)) dn kn ?_))))))))))
 refine jyn d0 (kc k2 (kc k2 kn)) (jy Z (jmv Z) (jy Z (jex' Z Z) (jy Z (jex' Z Z) (jy Z (jas Z) (jy Z (jas Z) (jyd (jx (jq (jany false (.a 0 (.a 1 (.a 2 (.a 3 (.a 4 (.a 5 (.a 6 (.o 7 .e)))))))) Mixed (by kernel_rfl) (kc k0 (kc k2 (kc k2 kn))) fun F44 => jy Z (jl k2 O69 Z Z) (jy Z (jnil Z) ?_))))))))))
 refine jy Z (jf F72_0 Z) (jy Z (jl k0 O70 Z Z) (jy Z (jf F34_1 Z) (jy Z (jl k1 O3 Z Z) (jy Z (jmv Z) (jyo Z (jvu U70 U3 k1 Z Z Z (wdo (wgl k2 (by omega))) (jyn d0 (kc k1 (kc k2 (kc k2 kn))) (jyd (jx (jq (jr ?_)))))))))))
 refine jm Z (js (jnot Z) (jn (jx ?_)))
 refine jif Z (fun hc7 => ?_) (fun hc7 => ?_)
 refine jr (js (jl k4 O69 Z Z) (jc E49 Z Z (rEnd_ct _ _ Z w1.one w2.one w3.one) dn (kc k1 kn) (fun _ => p0) (fun _ => p1) fun _ => jn (jbn ?_)))
 have q1 : inzV i V me an = setV V i.Dst ((doM i.Op (ix (List.map V i.Args) 0) (ix (List.map V i.Args) 1)).1) := by first | (simp [inzV,inzE,inzX,inzM,inzC,inzA,inzT,aI,hc1,hc2,hc3,hc4,hc6,hc7]; done) | (simp [inzV,inzE,inzX,inzM,inzC,inzA,inzT,aI,hc1,hc2,hc3,hc4,hc6,hc7]; split <;> simp_all; done) | (simp_all [inzV,inzE,inzX,inzM,inzC,inzA,inzT,aI]; done)
 have q2 : inzE i V me e0 = 2 := by first | (simp [inzV,inzE,inzX,inzM,inzC,inzA,inzT,aI,hc1,hc2,hc3,hc4,hc6,hc7]; done) | (simp [inzV,inzE,inzX,inzM,inzC,inzA,inzT,aI,hc1,hc2,hc3,hc4,hc6,hc7]; split <;> simp_all; done) | (simp_all [inzV,inzE,inzX,inzM,inzC,inzA,inzT,aI]; done)
 have q3 : inzX i V me x0 = (-1) := by first | (simp [inzV,inzE,inzX,inzM,inzC,inzA,inzT,aI,hc1,hc2,hc3,hc4,hc6,hc7]; done) | (simp [inzV,inzE,inzX,inzM,inzC,inzA,inzT,aI,hc1,hc2,hc3,hc4,hc6,hc7]; split <;> simp_all; done) | (simp_all [inzV,inzE,inzX,inzM,inzC,inzA,inzT,aI]; done)
 have q4 : inzM i V me = me := by first | (simp [inzV,inzE,inzX,inzM,inzC,inzA,inzT,aI,hc1,hc2,hc3,hc4,hc6,hc7]; done) | (simp [inzV,inzE,inzX,inzM,inzC,inzA,inzT,aI,hc1,hc2,hc3,hc4,hc6,hc7]; split <;> simp_all; done) | (simp_all [inzV,inzE,inzX,inzM,inzC,inzA,inzT,aI]; done)
 have q5 : inzC i V cl = cl := by first | (simp [inzV,inzE,inzX,inzM,inzC,inzA,inzT,aI,hc1,hc2,hc3,hc4,hc6,hc7]; done) | (simp [inzV,inzE,inzX,inzM,inzC,inzA,inzT,aI,hc1,hc2,hc3,hc4,hc6,hc7]; split <;> simp_all; done) | (simp_all [inzV,inzE,inzX,inzM,inzC,inzA,inzT,aI]; done)
 have q6 : inzA i an = an := by first | (simp [inzV,inzE,inzX,inzM,inzC,inzA,inzT,aI,hc1,hc2,hc3,hc4,hc6,hc7]; done) | (simp [inzV,inzE,inzX,inzM,inzC,inzA,inzT,aI,hc1,hc2,hc3,hc4,hc6,hc7]; split <;> simp_all; done) | (simp_all [inzV,inzE,inzX,inzM,inzC,inzA,inzT,aI]; done)
 simp only [q1,q2,q3,q4,q5,q6]
 exact jd0 Z (cv,av) Z (dc d2 dn) (fun _ _ => (kd (kc k3 (kc k3 kn))))
 refine jsk (jbn ?_)
 have q1 : inzV i V me an = setV V i.Dst ((doM i.Op (ix (List.map V i.Args) 0) (ix (List.map V i.Args) 1)).1) := by first | (simp [inzV,inzE,inzX,inzM,inzC,inzA,inzT,aI,hc1,hc2,hc3,hc4,hc6,hc7]; done) | (simp [inzV,inzE,inzX,inzM,inzC,inzA,inzT,aI,hc1,hc2,hc3,hc4,hc6,hc7]; split <;> simp_all; done) | (simp_all [inzV,inzE,inzX,inzM,inzC,inzA,inzT,aI]; done)
 have q2 : inzE i V me e0 = e0 := by first | (simp [inzV,inzE,inzX,inzM,inzC,inzA,inzT,aI,hc1,hc2,hc3,hc4,hc6,hc7]; done) | (simp [inzV,inzE,inzX,inzM,inzC,inzA,inzT,aI,hc1,hc2,hc3,hc4,hc6,hc7]; split <;> simp_all; done) | (simp_all [inzV,inzE,inzX,inzM,inzC,inzA,inzT,aI]; done)
 have q3 : inzX i V me x0 = x0 := by first | (simp [inzV,inzE,inzX,inzM,inzC,inzA,inzT,aI,hc1,hc2,hc3,hc4,hc6,hc7]; done) | (simp [inzV,inzE,inzX,inzM,inzC,inzA,inzT,aI,hc1,hc2,hc3,hc4,hc6,hc7]; split <;> simp_all; done) | (simp_all [inzV,inzE,inzX,inzM,inzC,inzA,inzT,aI]; done)
 have q4 : inzM i V me = me := by first | (simp [inzV,inzE,inzX,inzM,inzC,inzA,inzT,aI,hc1,hc2,hc3,hc4,hc6,hc7]; done) | (simp [inzV,inzE,inzX,inzM,inzC,inzA,inzT,aI,hc1,hc2,hc3,hc4,hc6,hc7]; split <;> simp_all; done) | (simp_all [inzV,inzE,inzX,inzM,inzC,inzA,inzT,aI]; done)
 have q5 : inzC i V cl = cl := by first | (simp [inzV,inzE,inzX,inzM,inzC,inzA,inzT,aI,hc1,hc2,hc3,hc4,hc6,hc7]; done) | (simp [inzV,inzE,inzX,inzM,inzC,inzA,inzT,aI,hc1,hc2,hc3,hc4,hc6,hc7]; split <;> simp_all; done) | (simp_all [inzV,inzE,inzX,inzM,inzC,inzA,inzT,aI]; done)
 have q6 : inzA i an = an := by first | (simp [inzV,inzE,inzX,inzM,inzC,inzA,inzT,aI,hc1,hc2,hc3,hc4,hc6,hc7]; done) | (simp [inzV,inzE,inzX,inzM,inzC,inzA,inzT,aI,hc1,hc2,hc3,hc4,hc6,hc7]; split <;> simp_all; done) | (simp_all [inzV,inzE,inzX,inzM,inzC,inzA,inzT,aI]; done)
 simp only [q1,q2,q3,q4,q5,q6]
 exact jd0 Z (cv,av) Z (dc d2 dn) (fun _ _ => (kc k1 (kc k0 (kc k3 (kc k3 kn)))))
end Go.Proofs.Ytmfkkodnghambaa
namespace Go.Proofs.Ytmfkkodnghambaa
open Go.JE
theorem A26 : ∃ d,Try.prog.underlying 26 = some d ∧ (match d with | .struct _ | .array _ _ => true | _ => false) = true := ⟨_,Try.underlying26,rfl⟩
theorem A37 : ∃ d,Try.prog.underlying 37 = some d ∧ (match d with | .struct _ | .array _ _ => true | _ => false) = true := ⟨_,Try.underlying37,rfl⟩
theorem A40 : ∃ d,Try.prog.underlying 40 = some d ∧ (match d with | .struct _ | .array _ _ => true | _ => false) = true := ⟨_,Try.underlying40,rfl⟩
theorem E22 : Ent Try.prog 22 := ⟨_,Try.func22,by kernel_rfl,by kernel_rfl⟩
theorem E23 : Ent Try.prog 23 := ⟨_,Try.func23,by kernel_rfl,by kernel_rfl⟩
theorem E24 : Ent Try.prog 24 := ⟨_,Try.func24,by kernel_rfl,by kernel_rfl⟩
theorem E25 : Ent Try.prog 25 := ⟨_,Try.func25,by kernel_rfl,by kernel_rfl⟩
theorem E26 : Ent Try.prog 26 := ⟨_,Try.func26,by kernel_rfl,by kernel_rfl⟩
theorem E27 : Ent Try.prog 27 := ⟨_,Try.func27,by kernel_rfl,by kernel_rfl⟩
theorem F40_0 : Fld Try.prog 40 0 0 := ⟨_,_,Try.underlying40,rfl,rfl,1,(by unfold Sz; kernel_rfl),by decide⟩
theorem F40_2 : Fld Try.prog 40 2 2 := ⟨_,_,Try.underlying40,rfl,rfl,1,(by unfold Sz; kernel_rfl),by decide⟩
theorem F40_3 : Fld Try.prog 40 3 3 := ⟨_,_,Try.underlying40,rfl,rfl,1,(by unfold Sz; kernel_rfl),by decide⟩
theorem Z26 : Sz Try.prog 26 5 := by unfold Sz; kernel_rfl
theorem Z37 : Sz Try.prog 37 4 := by unfold Sz; kernel_rfl
theorem Z40 : Sz Try.prog 40 4 := by unfold Sz; kernel_rfl
theorem J26 : (Try.prog.info? 26).bind (·.zero) = some (.agg #[.int .i64 0,.int .i32 0,.slice none 0 0,.slice none 0 0,.int .i64 0]) := by kernel_rfl
set_option maxRecDepth 4000
set_option maxHeartbeats 2000000 in
theorem rRun_ct {a0 : Value} {f : D.Func} {a1a a1b a1c : Value} {i : D.Input} (hG : GoodF f) (hN : i.Steps ≤ 1000000) : Ts Try.prog 11 #[vFunc f a0,vInput i (a1a,a1b,a1c)] [da rFunc (vFunc f a0) f,da rInput (vInput i (a1a,a1b,a1c)) i] [] rOutcome vOutcome (runF f i) := by
 refine jenter (args := [vFunc f a0,vInput i (a1a,a1b,a1c)]) Try.func11 rfl rfl rfl fun w0 X => ?_
 have hpr := hG.par
 have hln := hG.len
 refine jq (jr (jbox Z Z fun g2 => jbox Z Z fun g3 => jalc J26 Z fun g4 => jn (jx (jsc (jq (jq (jr (js (jla k2 A30 Z30 Z Z Z) ?_))))))))
 refine jcv E22 Z Z (kRight_ct hG) (dc d0 dn) kn (js (jnot Z) (jn (jx ?_)))
 refine jif Z (fun hc1 => ?_) (fun hc1 => ?_)
 exact absurd hc1 (by simp)
 refine jsk (jx (jq (jr (jvn fun g17 => js (jf F40_2 Z) (js (jl k2 O23 Z Z) (js (jf F40_3 Z) (js (jl k2 O3 Z Z) (jdq (rInput.c_Answers d1) fun q1 w1 => js (jbu (v := .agg #[.map (some g17),.int .i64 0,.int .i32 0,.slice none 0 0,.slice none 0 0,.int .i64 0,a1c,.int .i64 i.Steps]) Z (fun _ => by obtain ⟨_,_,_,rfl⟩ := w1; kernel_rfl)) (jbox Z Z fun g23 => ?_)))))))))
 refine ja Z (jn (jx (jq (jr (jm Z (js (jla k3 A40 Z40 Z Z Z) (jcg E23 Z Z pMem_ct (dc d1 dn) kn fun v26 w2 => js (jnil Z) (js (jf F72_1 Z) (js (jf F26_2 Z) (jst k1 Z23 Z Z w2.one s3 ?_))))))))))
 refine jn (jx (jq (jq (jr (js (jf F40_0 Z) (js (jl k4 O23 Z Z) (js (jf F40_0 Z) (js (jl k4 O23 Z Z) (jdq (rInput.c_Args d1) fun q3 w3 => js (jln U23 (rInput.c_Args d1) Z) (js (jf F30_0 Z) ?_))))))))))
 refine js (jl k5 O3 Z Z) (js (jmin Z Z) (js (jshi (hi := (Int.toNat (min (↑(List.length i.Args)) f.Params))) U23 Z21 (rInput.c_Args d1) Z Z (by omega) (by omega)) (jdq (dhi (rInput.c_Args d1) (Int.toNat (min (↑(List.length i.Args)) f.Params)) (by omega) (by omega)) fun q4 w4 => js (jln U23 (dhi (rInput.c_Args d1) (Int.toNat (min (↑(List.length i.Args)) f.Params)) (by omega) (by omega)) Z) (jm Z (jn (jx (jb ?_)))))))
 refine jlp (u2 fun (k : Nat) (V1 : Int → Int) => ⟨k ≤ (argsF f i).length ∧ V1 = argsV (argsF f i) k,[da rFunc (vFunc f a0) f,da rInput (vInput i (a1a,a1b,a1c)) i],[bx g23 72 [.map (some g17),.int .i64 0,.int .i32 0,v26,.slice none 0 0,.int .i64 0,a1c,.int .i64 i.Steps],gl X.n (rI .i32) 21 v26 (memM i),vm g17 V1,bx g4 26 [.int .i64 0,.int .i32 0,.slice none 0 0,.slice none 0 0,.int .i64 0],bx g2 30 [.int .i64 f.Params,a0]],[(2,.pointer (some ⟨g2,0,none⟩)),(4,.pointer (some ⟨g4,0,none⟩)),(5,.pointer (some ⟨g23,0,none⟩)),(38,(resl 1 a1a 0 (Int.toNat (min (↑(List.length i.Args)) f.Params)))),(39,.int .i64 (↑(List.length (List.take (Int.toNat (min (↑(List.length i.Args)) f.Params)) i.Args)))),(40,.int .i64 (↑k))],(argsF f i).length - k⟩) (0,fun _ => 0) ⟨by dsimp only; omega,rfl⟩ (dc d0 (dc d1 dn)) (kd (kd (kc k1 kn))) ⟨Z,Z,Z,Z,Z,eqI (by omega),trivial⟩ ?_
 rintro ⟨k,V1⟩; dsimp only [u2]; rintro ⟨hk,hV1⟩
 have hal : (argsF f i).length = (List.take (Int.toNat (min (i.Args.length : Int) f.Params)) i.Args).length := rfl
 refine jq (jr (js (jlss Z Z) (jn (jx (jq ?_)))))
 refine jif Z (fun hc2 => ?_) (fun hc2 => ?_)
 refine jsk (jx (jq (jb (jq (jr (jm Z (js (jix U23 Z21 (dhi (rInput.c_Args d1) (Int.toNat (min (↑(List.length i.Args)) f.Params)) (by omega) (by omega)) Z Z Z (by omega)) (js (jlI (dix (dhi (rInput.c_Args d1) (Int.toNat (min (↑(List.length i.Args)) f.Params)) (by omega) (by omega)) k (by omega)) O21 Z) (ja Z (ja Z (jn ?_)))))))))))
 refine jx (jr (jm Z (js (jnil Z) (js (jf F72_0 Z) (js (jl k0 O70 Z Z) (jm Z (jm Z (jvu U70 U3 k2 Z Z Z (wad (dix (dhi (rInput.c_Args d1) (Int.toNat (min (↑(List.length i.Args)) f.Params)) (by omega) (by omega)) k (by omega))) (jn (jbn (jx ?_)))))))))))
 refine jr (js (jadd Z Z (by omega)) (jm Z (jn ?_)))
 exact jag (k + 1,setV V1 ((k : Nat) : Int) (ix (List.take (Int.toNat (min (((List.length i.Args : Nat) : Int)) f.Params)) i.Args) k)) ⟨by dsimp only; omega,by dsimp only; rw [hV1]; rfl⟩ (dc d0 (dc d1 dn)) (kc k1 (kc k1 (kd (kc k0 kn)))) ⟨Z,Z,Z,Z,Z,eqI (by omega),trivial⟩
 refine jex (jtx (jtx (jbh (jx (jq (jr (ja Z (ja Z (jn (jx (jq ?_)))))))))))
 refine jlab (jx (jq (jb (cnl (r := rEvent) (E := 60) ?_))))
 refine jlp (u11 fun (fu : Nat) (ab : Int) (fb : Int) (V1 : Int → Int) (x1 : Int) (me1 : List Int) (cl1 : List D.Event) (st1 : Int) (an1 : List Int) (vc1 : Value) (va1 : Value) => ⟨0 < fu ∧ runF f i = outF (blocksF f.Blocks i.Steps fu ab fb ⟨V1,0,x1,me1,cl1,st1,an1⟩) ∧ (0 ≤ ab ∧ ab < f.Blocks.length) ∧ (∀ p ∈ (ix f.Blocks (Int.toNat ab)).Phis,fb ∈ p.In.map (fun x => x.From)) ∧ me1.length ≤ 4096 ∧ (0 ≤ st1 ∧ st1 ≤ 1000000) ∧ cl1.length ≤ st1 ∧ i.Steps - st1 < fu ∧ IntKind.i32.wrap x1 = x1,[da rFunc (vFunc f a0) f,da rInput (vInput i (a1a,a1b,a1c)) i,dv (rL (rI .i32)) va1 an1],[gl X.n rEvent 60 vc1 cl1,bx g23 72 [.map (some g17),.int .i64 0,.int .i32 x1,v26,vc1,.int .i64 st1,va1,.int .i64 i.Steps],gl X.n (rI .i32) 21 v26 me1,vm g17 V1,bx g4 26 [.int .i64 0,.int .i32 0,.slice none 0 0,.slice none 0 0,.int .i64 0],bx g2 30 [.int .i64 f.Params,a0]],[(2,.pointer (some ⟨g2,0,none⟩)),(4,.pointer (some ⟨g4,0,none⟩)),(5,.pointer (some ⟨g23,0,none⟩)),(8,.int .i64 ab),(9,.int .i64 fb)],fu⟩) (Int.toNat i.Steps + 1,0,(-1),V1,0,memM i,[],0,i.Answers,.slice none 0 0,a1c) ⟨by dsimp only; omega,by dsimp only; rw [hV1,show k = (argsF f i).length by omega]; rfl,by dsimp only; omega,hG.phi0,by dsimp only; exact memM_len i,by dsimp only; omega,by simp,by dsimp only; omega,by dsimp only; decide⟩ (dc d0 (dc d1 (dc (rInput.c_Answers d1) dn))) (kd (kd (kd kn))) ⟨Z,Z,Z,Z,Z,trivial⟩ ?_
 rintro ⟨fu,ab,fb,V1,x1,me1,cl1,st1,an1,vc1,va1⟩; dsimp only [u11]; rintro ⟨hfu,hrun,hab,hph,hml,hst,hcl,hfs,hx1⟩
 refine cgo k0 fun w6 => cdq d2 fun q7 w7 => ?_
 have hbb : Int.toNat ab < f.Blocks.length := by omega
 have htm := hG.tm _ hbb
 refine jb (jq (jr (js (jf F30_1 Z) (js (jl k5 O28 Z Z) (jm Z (jdq (rFunc.cB d0) fun q8 w8 => js (jix (i := (Int.toNat ab)) U28 Z52 (rFunc.cB d0) Z Z (by omega) (by omega)) (jA4 sBlock (jlA (dix (rFunc.cB d0) (Int.toNat ab) (by omega)) A52 Z52 Z) fun c56a c56b c56c c56d => jalc J52 Z fun g10 => jdq (rBlock.cP d0) fun q10 w10 => jdq (rBlock.cI d0) fun q11 w11 => ?_)))))))
 refine jdq (rBlock.c_Term_Args d0) fun q12 w12 => jdq (rBlock.c_Term_To d0) fun q13 w13 => jsta k0 Z52 Z Z Z ⟨w10.one,w11.one,Z,w12.one,w13.one,Z,trivial⟩ (saf Z) (jn (jx (jq (jr (jm Z (js (jf F52_0 Z) (js (jl k0 O50 Z Z) (jm Z (jc E24 Z Z (rPhis_ct _ w2.one w6.one w7.one hph) (dc (rBlock.cP d0) dn) (kc k2 (kc k3 kn)) (fun _ => p0) (fun _ => p2) fun _ => ?_)))))))))
 refine jn (jx (jq (jq (jr (js (jf F52_1 Z) (js (jl k2 O35 Z Z) (js (jln U35 (rBlock.cI d0) Z) (jm Z (jn (jx (jb ?_)))))))))))
 refine jlp (u10 fun (k : Nat) (V2 : Int → Int) (e2 : Int) (x2 : Int) (me2 : List Int) (cl2 : List D.Event) (st2 : Int) (an2 : List Int) (vc2 : Value) (va2 : Value) => ⟨k ≤ (ix f.Blocks (Int.toNat ab)).Ins.length ∧ lisF i.Steps (ix f.Blocks (Int.toNat ab)).Ins (phisF fb (ix f.Blocks (Int.toNat ab)).Phis ⟨V1,0,x1,me1,cl1,st1,an1⟩) = lisF i.Steps ((ix f.Blocks (Int.toNat ab)).Ins.drop k) ⟨V2,e2,x2,me2,cl2,st2,an2⟩ ∧ me2.length ≤ 4096 ∧ (0 ≤ st2 ∧ st2 ≤ 1000000) ∧ cl2.length ≤ st2 ∧ st1 ≤ st2 ∧ IntKind.i32.wrap x2 = x2 ∧ 0 ≤ e2 ∧ e2 ≤ 3,[da rBlock (vBlock (ix f.Blocks (Int.toNat ab)) (c56a,c56b,c56c,c56d)) (ix f.Blocks (Int.toNat ab)),da rFunc (vFunc f a0) f,da rInput (vInput i (a1a,a1b,a1c)) i,dv (rL (rI .i32)) va2 an2],[bx g23 72 [.map (some g17),.int .i64 e2,.int .i32 x2,v26,vc2,.int .i64 st2,va2,.int .i64 i.Steps],vm g17 V2,bx g10 52 [c56a,c56b,.int .i64 (((ix f.Blocks (Int.toNat ab)).Term).Kind),c56c,c56d,.int .i32 (((ix f.Blocks (Int.toNat ab)).Term).Imm)],gl X.n rEvent 60 vc2 cl2,gl X.n (rI .i32) 21 v26 me2,bx g4 26 [.int .i64 0,.int .i32 0,.slice none 0 0,.slice none 0 0,.int .i64 0],bx g2 30 [.int .i64 f.Params,a0]],[(2,.pointer (some ⟨g2,0,none⟩)),(4,.pointer (some ⟨g4,0,none⟩)),(5,.pointer (some ⟨g23,0,none⟩)),(8,.int .i64 ab),(9,.int .i64 fb),(10,.pointer (some ⟨g10,0,none⟩)),(63,c56b),(64,.int .i64 (↑(List.length ((ix f.Blocks (Int.toNat ab)).Ins)))),(65,.int .i64 (↑k))],(ix f.Blocks (Int.toNat ab)).Ins.length - k⟩) (0,phisV fb ((ix f.Blocks (Int.toNat ab)).Phis) V1,0,x1,me1,cl1,st1,an1,vc1,va1) ⟨by dsimp only; omega,rfl,hml,by dsimp only; omega,hcl,by dsimp only; omega,hx1,by dsimp only; omega,by dsimp only; omega⟩ (dc d0 (dc d1 (dc d2 (dc d3 dn)))) (kd (kd (kd (kc k0 kn)))) ⟨Z,Z,Z,Z,Z,Z,Z,Z,eqI (by omega),trivial⟩ ?_
 rintro ⟨k,V2,e2,x2,me2,cl2,st2,an2,vc2,va2⟩; dsimp only [u10]; rintro ⟨hk,hlis,hml2,hst2,hcl2,hs12,hx2,he2⟩
 refine cgo k3 fun w15 => cdq d3 fun q16 w16 => ?_
 have hse := stE_rng (st := st2) (ss := i.Steps) he2
 refine jq (jr (js (jlss Z Z) (jn (jx (jq ?_)))))
 refine jif Z (fun hc3 => ?_) (fun hc3 => ?_)
 refine jsk (jx (jq (jb (jq (jr (js (jix U35 Z34 (rBlock.cI d0) Z Z Z (by omega)) (jA sIns (jlA (dix (rBlock.cI d0) k (by omega)) A34 Z34 Z) fun c68 => jalc J34 Z fun g12 => jdq (rIns.c_Args d0) fun q18 w18 => jsta k0 Z34 Z Z Z ⟨Z,Z,Z,w18.one,Z,trivial⟩ (saf Z) (jn ?_))))))))
 refine jx (jq (jq (jr (jm Z (jc E25 Z Z (rStep_ct Z w2.one w15.one w16.one (by omega)) dn (kc k1 kn) (fun _ => p0) (fun _ => p1) fun _ => js (jnot Z) (jn (jx ?_)))))))
 refine jif Z (fun hc4 => ?_) (fun hc4 => ?_)
 have hso : stepOk i.Steps ⟨V2,e2,x2,me2,cl2,st2,an2⟩ = false := by simpa [stepOk] using hc4
 have hsf : stE e2 st2 i.Steps ≠ 0 ∧ stS e2 st2 i.Steps = st2 := stB_f hso
 refine jex (jtx (jbo (jtx (jtx (jbo (jtx (jbo (jtx (jbh (jx (jq ?_)))))))))))
 refine jr (jm Z (js (jnil Z) (js (jf F72_1 Z) (js (jla k0 A26 Z26 Z Z Z) (jsta k6 Z26 Z Z Z ⟨Z,Z,w2.one,w15.one,Z,trivial⟩ (saf Z) (jn (jx (jrt (jso (qfz k6 (by omega) (qfz k5 (by omega) ?_)))))))))))
 exact jrcA (val := vOutcome) (b := ⟨stE e2 st2 i.Steps,stV e2 x2 st2 i.Steps,me2,cl2,stS e2 st2 i.Steps⟩) (c := (v26,vc2)) Z Z k0 A26 Z26 Z (by rw [hrun,blk_stop (lis_stop hlis (by omega) hso) hfu]; rfl) (rOutcome.M (m := ⟨stE e2 st2 i.Steps,stV e2 x2 st2 i.Steps,me2,cl2,stS e2 st2 i.Steps⟩) (c := (v26,vc2)) d1 d0 (wp (IntWalk.i64_in (stE e2 st2 i.Steps) (by omega))) (wp (stV_wr hx2)) (wp (IntWalk.i64_in (stS e2 st2 i.Steps) (by omega))))
 have hso : stepOk i.Steps ⟨V2,e2,x2,me2,cl2,st2,an2⟩ = true := by simpa [stepOk] using hc4
 have hsb : e2 = 0 ∧ st2 < i.Steps ∧ stE e2 st2 i.Steps = 0 ∧ stS e2 st2 i.Steps = st2 + 1 := stB_t hso
 refine jsk (jx (jr (jm Z (js (jla k1 A34 Z34 Z Z Z) (jc E26 Z Z (rIns_ct (i := (ix ((ix f.Blocks (Int.toNat ab)).Ins) k)) (me := me2) (cl := cl2) (hG.op _ hbb _ (ix_mem (l := (ix f.Blocks (Int.toNat ab)).Ins) (i := k) (by omega))) (by omega) (by omega)) (dc d4 (dc d0 dn)) (kc k0 (kc k1 (kc k3 (kc k2 kn)))) (fun _ => p1) (fun _ => p4) fun c74 => jgo k3 fun w22 => jn (jbn (jx (jr (js (jadd Z Z (by omega)) ?_)))))))))
 refine jm Z (jn ?_)
 exact jag (k + 1,inzV (ix ((ix f.Blocks (Int.toNat ab)).Ins) k) V2 me2 an2,inzE (ix ((ix f.Blocks (Int.toNat ab)).Ins) k) V2 me2 (stE e2 st2 i.Steps),inzX (ix ((ix f.Blocks (Int.toNat ab)).Ins) k) V2 me2 (stV e2 x2 st2 i.Steps),inzM (ix ((ix f.Blocks (Int.toNat ab)).Ins) k) V2 me2,inzC (ix ((ix f.Blocks (Int.toNat ab)).Ins) k) V2 cl2,stS e2 st2 i.Steps,inzA (ix ((ix f.Blocks (Int.toNat ab)).Ins) k) an2,c74.1,c74.2) ⟨by dsimp only; omega,lis_go2 hlis (by omega) hso,by dsimp only; rw [inzM_len]; exact hml2,by dsimp only; omega,by have h9 := inzC_len (ix (ix f.Blocks (Int.toNat ab)).Ins k) V2 cl2; dsimp only; omega,by dsimp only; omega,inzX_wr (stV_wr hx2),inzE_rng hse⟩ (dc d2 (dc d3 (dc d4 (dc d0 dn)))) (kd (kc k3 (kc k1 (kc k0 (kc k1 (kc k1 kn)))))) ⟨Z,Z,Z,Z,Z,Z,Z,Z,eqI (by omega),trivial⟩
 refine jex (jtx (jtx (jbh (jx (jq (jq (jr (jm Z (jc E25 Z Z (rStep_ct Z w2.one w15.one w16.one (by omega)) dn (kc k0 kn) (fun _ => p0) (fun _ => p1) fun _ => js (jnot Z) (jn ?_))))))))))
 refine jx ?_
 refine jif Z (fun hc5 => ?_) (fun hc5 => ?_)
 have hso : stepOk i.Steps ⟨V2,e2,x2,me2,cl2,st2,an2⟩ = false := by simpa [stepOk] using hc5
 have hsf : stE e2 st2 i.Steps ≠ 0 ∧ stS e2 st2 i.Steps = st2 := stB_f hso
 refine jex (jtx (jbo (jtx (jbh (jx (jq (jr (jm Z (js (jnil Z) (js (jf F72_1 Z) (js (jla k0 A26 Z26 Z Z Z) ?_)))))))))))
 refine jsta k5 Z26 Z Z Z ⟨Z,Z,w2.one,w15.one,Z,trivial⟩ (saf Z) (jn (jx (jrt (jso (qfz k5 (by omega) (qfz k4 (by omega) ?_))))))
 exact jrcA (val := vOutcome) (b := ⟨stE e2 st2 i.Steps,stV e2 x2 st2 i.Steps,me2,cl2,stS e2 st2 i.Steps⟩) (c := (v26,vc2)) Z Z k0 A26 Z26 Z (by rw [hrun,blk_step (lis_end hlis (by omega)) hso hfu]; rfl) (rOutcome.M (m := ⟨stE e2 st2 i.Steps,stV e2 x2 st2 i.Steps,me2,cl2,stS e2 st2 i.Steps⟩) (c := (v26,vc2)) d1 d0 (wp (IntWalk.i64_in (stE e2 st2 i.Steps) (by omega))) (wp (stV_wr hx2)) (wp (IntWalk.i64_in (stS e2 st2 i.Steps) (by omega))))
 have hso : stepOk i.Steps ⟨V2,e2,x2,me2,cl2,st2,an2⟩ = true := by simpa [stepOk] using hc5
 have hsb : e2 = 0 ∧ st2 < i.Steps ∧ stE e2 st2 i.Steps = 0 ∧ stS e2 st2 i.Steps = st2 + 1 := stB_t hso
 have hte := termE_rng (t := (ix f.Blocks (Int.toNat ab)).Term) hse
 refine jsk (jx (jq (jr (jm Z (jm Z (js (jf F52_2 Z) (js (jla k2 A37 Z37 Z Z Z) (jwr (rBlock.W_Term_Imm d0) fun w25 => jvw k1 fun hvw => jc E27 Z Z (rTerm_ct (t := ((ix f.Blocks (Int.toNat ab)).Term)) w2.one w15.one w16.one htm) (dc (rBlock.P_Term d0) dn) (kd kn) (fun _ => p0) (fun _ => p2) fun _ => ja Z ?_))))))))
 refine ja Z (jn (jx (jq (jr (jm Z (js (jnil Z) (js (jf F72_1 Z) (js (jf F26_0 Z) (js (jl k0 O3 Z Z) (js (jneq Z Z) (jn ?_)))))))))))
 refine jx ?_
 refine jif Z (fun hc6 => ?_) (fun hc6 => ?_)
 have hzz : ¬ (termF (ix f.Blocks (Int.toNat ab)).Term (stepF i.Steps ⟨V2,e2,x2,me2,cl2,st2,an2⟩)).en = 0 := hc6
 refine jex (jbo (jtx (jbh (jx (jq (jr (jm Z (js (jnil Z) (js (jf F72_1 Z) (js (jla k0 A26 Z26 Z Z Z) (jsta k5 Z26 Z Z Z ⟨Z,Z,w2.one,w15.one,Z,trivial⟩ (saf Z) ?_)))))))))))
 refine jn (jx (jrt (jso (qfz k5 (by omega) (qfz k4 (by omega) ?_)))))
 exact jrcA (val := vOutcome) (b := ⟨termE ((ix f.Blocks (Int.toNat ab)).Term) (stE e2 st2 i.Steps),termV ((ix f.Blocks (Int.toNat ab)).Term) V2 (stV e2 x2 st2 i.Steps),me2,cl2,stS e2 st2 i.Steps⟩) (c := (v26,vc2)) Z Z k0 A26 Z26 Z (by rw [hrun,blk_end (lis_end hlis (by omega)) hso hzz hfu]; rfl) (rOutcome.M (m := ⟨termE ((ix f.Blocks (Int.toNat ab)).Term) (stE e2 st2 i.Steps),termV ((ix f.Blocks (Int.toNat ab)).Term) V2 (stV e2 x2 st2 i.Steps),me2,cl2,stS e2 st2 i.Steps⟩) (c := (v26,vc2)) d1 d0 (wp (IntWalk.i64_in (termE ((ix f.Blocks (Int.toNat ab)).Term) (stE e2 st2 i.Steps)) (by omega))) (wp (termV_wr (stV_wr hx2) hvw w25)) (wp (IntWalk.i64_in (stS e2 st2 i.Steps) (by omega))))
 have hz9 : termE (ix f.Blocks (Int.toNat ab)).Term (stE e2 st2 i.Steps) = 0 := by simpa using hc6
 have hzz : (termF (ix f.Blocks (Int.toNat ab)).Term (stepF i.Steps ⟨V2,e2,x2,me2,cl2,st2,an2⟩)).en = 0 := hz9
 have htf : termF (ix f.Blocks (Int.toNat ab)).Term (stepF i.Steps ⟨V2,e2,x2,me2,cl2,st2,an2⟩) = ⟨V2,0,termV (ix f.Blocks (Int.toNat ab)).Term V2 (stV e2 x2 st2 i.Steps),me2,cl2,stS e2 st2 i.Steps,an2⟩ := by unfold termF stepF; dsimp only; rw [hz9]
 have htr := hG.to _ hbb _ (term_to (V := V2) htm hz9)
 rw [hz9]
 refine jsk (jbn ?_)
 exact jag (fu - 1,termB ((ix f.Blocks (Int.toNat ab)).Term) V2,ab,V2,termV ((ix f.Blocks (Int.toNat ab)).Term) V2 (stV e2 x2 st2 i.Steps),me2,cl2,stS e2 st2 i.Steps,an2,vc2,va2) ⟨by dsimp only; omega,by dsimp only; rw [hrun,blk_go (lis_end hlis (by omega)) hso hzz hfu,htf],by dsimp only; omega,by have h9 := hG.phi_from hbb (term_to (V := V2) htm hz9); rwa [Int.toNat_of_nonneg hab.1] at h9,hml2,by dsimp only; omega,by dsimp only; omega,by dsimp only; omega,by first | exact termV_wr (stV_wr hx2) hvw (by assumption) | exact (termV_wr (stV_wr hx2) hvw hIm)⟩ (dc d1 (dc d2 (dc d3 dn))) (kc k3 (kc k0 (kc k2 (kc k0 (kc k1 (kc k1 kn)))))) ⟨Z,Z,Z,Z,Z,trivial⟩
end Go.Proofs.Ytmfkkodnghambaa
namespace Go.Proofs.Ytmfkkodnghambaa
open Go.JE
def one3 (p : Int) (l : List D.Ins) (t : D.Term) : D.Func := ⟨p,[⟨[],l,t⟩]⟩
def ret3 (v : Int) : D.Term := ⟨4,[v],[],0⟩
theorem pos_makes {l : List D.Ins} {v : Int} {k : Nat} (h : v ∈ (l.take k).flatMap makes3) : ∃ i,i < k ∧ i < l.length ∧ v ∈ makes3 (ix l i) := by
 obtain ⟨x,h1,h2⟩ := List.mem_flatMap.1 h
 obtain ⟨i,hi,e⟩ := List.getElem_of_mem h1
 rw [List.length_take] at hi
 rw [List.getElem_take] at e
 exact ⟨i,by omega,by omega,by rw [ix_eq (show i < l.length by omega),e]; exact h2⟩
theorem good_one {p : Int} {l : List D.Ins} {t : D.Term} (hp : 0 ≤ p ∧ p ≤ 4) (hl : l.length ≤ 4000) (hn : (l.flatMap makes3).Nodup) (hr : ∀ r ∈ l.flatMap makes3,p ≤ r ∧ r ≤ 8191)
   (ho : ∀ i ∈ l,(1 ≤ i.Op ∧ i.Op ≤ 18) ∧ (operM i.Op).1 ≤ (i.Args.length : Int) ∧ (i.Args.length : Int) ≤ (operM i.Op).2) (ht : (t.Kind = 4 ∧ t.Args.length ≤ 1 ∨ t.Kind = 5 ∧ t.Args.length = 0) ∧ t.To = [])
   (hi : ∀ k,k < l.length → ∀ v ∈ (ix l k).Args,(0 ≤ v ∧ v < p) ∨ v ∈ (l.take k).flatMap makes3) (hu : ∀ v ∈ t.Args,(0 ≤ v ∧ v < p) ∨ v ∈ l.flatMap makes3) : GoodF (one3 p l t) := by
 have e0 : ∀ b,b < (one3 p l t).Blocks.length → ix (one3 p l t).Blocks b = ⟨[],l,t⟩ := fun b hb => by
   have hb : b < 1 := hb
   have : b = 0 := by omega
   subst this; rfl
 have em : mkB (⟨[],l,t⟩ : D.Block) = l.flatMap makes3 := by unfold mkB; simp
 have eo : ∀ j,ix (one3 p l t).Blocks j = if j = 0 then ⟨[],l,t⟩ else default := fun j => by
   cases j with
   | zero => rfl
   | succ j => rw [if_neg (by omega),ix_out (by show 1 ≤ j + 1; omega)]
 have e9 : mkB (default : D.Block) = [] := rfl
 refine ⟨hp,⟨by show 0 < 1; omega,by show (1 : Nat) ≤ 512; omega⟩,?_,⟨fun j => ?_,fun i j hij r hr hr2 => ?_⟩,fun b hb r hr2 => ?_,fun b hb i hi2 => ?_,fun b hb => ?_,fun b hb t' ht' => ?_,fun b hb => ?_,fun b hb p' hp' => ?_,fun b hb k hk v hv => ?_,fun b hb v hv => ?_,fun b hb p' hp' => ?_⟩
 · show 1 + cntF3 [⟨[],l,t⟩] ≤ 4096
   unfold cntF3; simp; omega
 · rw [eo]; split
   · rw [em]; exact hn
   · rw [e9]; exact List.nodup_nil
 · rw [eo] at hr hr2
   split at hr
   · rw [if_neg (by omega),e9] at hr2; cases hr2
   · rw [e9] at hr; cases hr
 · rw [e0 b hb,em] at hr2; exact hr r hr2
 · rw [e0 b hb] at hi2; exact ho i hi2
 · rw [e0 b hb]
   rcases ht with ⟨⟨h1,h2⟩ | ⟨h1,h2⟩,h3⟩
   · exact ⟨(0,1,0,0),by show shM t.Kind = _; rw [h1]; rfl,⟨by dsimp only; omega,by dsimp only; omega⟩,by rw [h3]; exact ⟨Int.le_refl _,Int.le_refl _⟩⟩
   · exact ⟨(0,0,0,0),by show shM t.Kind = _; rw [h1]; rfl,⟨by dsimp only; omega,by dsimp only; omega⟩,by rw [h3]; exact ⟨Int.le_refl _,Int.le_refl _⟩⟩
 · rw [e0 b hb] at ht'; rw [show (⟨[],l,t⟩ : D.Block).Term.To = [] from ht.2] at ht'; cases ht'
 · have hb : b < 1 := hb
   exact ⟨1,by rw [show b = 0 by omega]; exact .zero (by omega)⟩
 · rw [e0 b hb] at hp'; cases hp'
 · have hb0 : b = 0 := by have hb : b < 1 := hb; omega
   rw [e0 b hb] at hk hv
   rcases hi k hk v hv with h1 | h1
   · exact .inl h1
   · obtain ⟨i,h2,h3,h4⟩ := pos_makes h1
     exact .inr ⟨0,i,⟨by show 0 < 1; omega,.inr ⟨i,h3,h4,rfl⟩⟩,.inl ⟨hb0.symm,.inl (by omega)⟩⟩
 · have hb0 : b = 0 := by have hb : b < 1 := hb; omega
   rw [e0 b hb] at hv ⊢
   rcases hu v hv with h1 | h1
   · exact .inl h1
   · obtain ⟨i,h2,h3,h4⟩ := pos_makes (k := l.length) (by rw [List.take_length]; exact h1)
     exact .inr ⟨0,i,⟨by show 0 < 1; omega,.inr ⟨i,h3,h4,rfl⟩⟩,.inl ⟨hb0.symm,.inl (by show (i : Int) < (l.length : Int); omega)⟩⟩
 · rw [e0 b hb] at hp'; cases hp'
theorem E11 : Ent Try.prog 11 := ⟨_,Try.func11,by kernel_rfl,by kernel_rfl⟩
theorem E12 : Ent Try.prog 12 := ⟨_,Try.func12,by kernel_rfl,by kernel_rfl⟩
theorem E13 : Ent Try.prog 13 := ⟨_,Try.func13,by kernel_rfl,by kernel_rfl⟩
theorem I34 : (Try.prog.info? 34).map (fun i => (i.zero,i.size,i.bytes)) = some (some (.agg #[.int .i64 0,.int .i64 0,.int .i64 0,.slice none 0 0,.int .i32 0]),5,56) := by kernel_rfl
theorem I52 : (Try.prog.info? 52).map (fun i => (i.zero,i.size,i.bytes)) = some (some (.agg #[.slice none 0 0,.slice none 0 0,.int .i64 0,.slice none 0 0,.slice none 0 0,.int .i32 0]),6,112) := by kernel_rfl
theorem J30 : (Try.prog.info? 30).bind (·.zero) = some (.agg #[.int .i64 0,.slice none 0 0]) := by kernel_rfl
theorem J37 : (Try.prog.info? 37).bind (·.zero) = some (.agg #[.int .i64 0,.slice none 0 0,.slice none 0 0,.int .i32 0]) := by kernel_rfl
def shI : List D.Ins := [⟨14,2,0,[0,1],0⟩]
theorem sh4_good : GoodF (one3 2 shI (ret3 2)) := good_one (by decide) (by decide) (by decide) (by decide) (by decide) (by decide) (fun k hk v hv => by have e : k = 0 := (by have : k < 1 := hk; omega); subst e; exact .inl (by have : v ∈ [(0 : Int),1] := hv; simp at this; omega)) (fun v hv => .inr (by have : v ∈ [(2 : Int)] := hv; simp at this; subst this; decide))
theorem sh4_law : ((((((decide ((runF (one3 2 [⟨14,2,0,[0,1],0⟩] (ret3 2)) ⟨[7,2],[],[],5⟩).End = 1)) && (decide ((runF (one3 2 [⟨14,2,0,[0,1],0⟩] (ret3 2)) ⟨[7,2],[],[],5⟩).Val = 3))) && (decide ((runF (one3 2 [⟨14,2,0,[0,1],0⟩] (ret3 2)) ⟨[7,2],[],[],5⟩).Steps = 2))) && (decide ((runF (one3 2 [⟨14,2,0,[0,1],0⟩] (ret3 2)) ⟨[7],[],[],5⟩).End = 2))) && (decide ((runF (one3 2 [⟨14,2,0,[0,1],0⟩] (ret3 2)) ⟨[7],[],[],5⟩).Val = (-1)))) && (decide ((runF (one3 2 [⟨14,2,0,[0,1],0⟩] (ret3 2)) ⟨[7],[],[],5⟩).Steps = 1))) = true := by decide +kernel
theorem ret4_ct (v : Int) (ww0 : IntKind.i64.wrap v = v) : Ts Try.prog 13 #[.int .i64 v] [] [] rTerm vTerm (ret3 v) := by
 refine jenter (args := [.int .i64 v]) Try.func13 rfl rfl rfl fun w0 X => ?_
 refine jq (jr (jalc J37 Z fun g2 => jn (jx (jq (jr (jm Z (jlit (r := (rI .i64)) (l := [v]) U32 I3 (by decide) Z Z Z (lV Z Z (wI (wp ww0)) ln) fun g4 => js (jbu (v := .agg #[.int .i64 4,(.slice (some ⟨g4,0,none⟩) 1 1),.slice none 0 0,.int .i32 0]) Z (fun _ => by kernel_rfl)) (jsta k1 Z37 Z Z Z ⟨Z,Z,Z,Z,trivial⟩ (saf Z) (jn ?_)))))))))
 refine jx (jrt (qfz k1 (by (try simp) <;> omega) ?_))
 exact jrcA (val := vTerm) (b := ⟨4,[v],[],0⟩) (c := ((.slice (some ⟨g4,0,none⟩) 1 1),.slice none 0 0)) Z Z k0 A37 Z37 Z (by rfl) (rTerm.M (m := ⟨4,[v],[],0⟩) (c := ((.slice (some ⟨g4,0,none⟩) 1 1),.slice none 0 0)) d0 wN (wl 4) (wl 0))
theorem one4_ct (p : Int) {a1 : Value} {l : List D.Ins} {a2a a2b : Value} {t : D.Term} (ww0 : IntKind.i64.wrap p = p) : Ts Try.prog 12 #[.int .i64 p,a1,vTerm t (a2a,a2b)] [dv (rL rIns) a1 l,da rTerm (vTerm t (a2a,a2b)) t] [] rFunc vFunc (one3 p l t) := by
 refine jenter (args := [.int .i64 p,a1,vTerm t (a2a,a2b)]) Try.func12 rfl rfl rfl fun w0 X => ?_
 refine jq (jr (jbox Z Z fun g5 => jalc J30 Z fun g6 => jn (jx (jq (jr (jm Z (jm Z (js (jla k1 A37 Z37 Z Z Z) (jdq d0 fun q1 w1 => ?_)))))))))
 refine jdq (rTerm.c_Args d1) fun q2 w2 => jdq (rTerm.c_To d1) fun q3 w3 => js (jbu (v := .agg #[.slice none 0 0,a1,.int .i64 t.Kind,a2a,a2b,.int .i32 t.Imm]) Z (fun _ => by obtain ⟨_,_,_,rfl⟩ := w1; obtain ⟨_,_,_,rfl⟩ := w2; obtain ⟨_,_,_,rfl⟩ := w3; kernel_rfl)) (jlit (r := rBlock) (l := [⟨[],l,t⟩]) U28 I52 (by decide) Z Z Z (lA (rBlock.M (m := ⟨[],l,t⟩) (c := (.slice none 0 0,a1,a2a,a2b)) wN d0 (rTerm.c_Args d1) (rTerm.c_To d1) (rTerm.W_Kind d1) (rTerm.W_Imm d1)) ln) fun g11 => js (jbu (v := .agg #[.int .i64 p,(.slice (some ⟨g11,0,none⟩) 1 1)]) Z (fun _ => by kernel_rfl)) (jsta k1 Z30 Z Z Z ⟨Z,Z,trivial⟩ (saf Z) (jn (jx (jrt (qfz k1 (by (try simp) <;> omega) ?_))))))
 exact jrcA (val := vFunc) (b := ⟨p,[⟨[],l,t⟩]⟩) (c := (.slice (some ⟨g11,0,none⟩) 1 1)) Z Z k0 A30 Z30 Z (by rfl) (rFunc.M (m := ⟨p,[⟨[],l,t⟩]⟩) (c := (.slice (some ⟨g11,0,none⟩) 1 1)) d0 (wp ww0))
attribute [local irreducible] runF
theorem shown4_ct  : Tv Try.prog 10 #[] [] [] (.bool true) := by
 refine jenter (args := []) Try.func10 rfl rfl rfl fun w0 X => ?_
 refine jq (jr (ja Z (jn (jx (jq (jr (jlit (r := (rI .i64)) (l := [0,1]) U32 I3 (by decide) Z Z Z (lV Z Z (wI (wl 0)) (lV Z Z (wI (wl 1)) ln)) fun g4 => js (jbu (v := .agg #[.int .i64 14,.int .i64 2,.int .i64 0,(.slice (some ⟨g4,0,none⟩) 2 2),.int .i32 0]) Z (fun _ => by kernel_rfl)) (jfz k0 (by (try simp) <;> omega) (jlit (r := rIns) (l := [⟨14,2,0,[0,1],0⟩]) U35 I34 (by decide) Z Z Z (lA (rIns.M (m := ⟨14,2,0,[0,1],0⟩) (c := (.slice (some ⟨g4,0,none⟩) 2 2)) d0 (wl 14) (wl 2) (wl 0) (wl 0)) ln) fun g6 => jcs2 E13 Z Z (ret4_ct 2 (by decide)) dn kn fun c7a c7b => ?_)))))))))
 refine jfz k0 (by (try simp) <;> omega) (jdq d0 fun q4 w4 => jcs E12 Z Z (one4_ct 2 (by decide)) (dc d0 (dc d1 dn)) kn fun c8 => jalc J30 Z fun g1 => jdq (rFunc.cB d0) fun q6 w6 => jsta k0 Z30 Z Z Z ⟨Z,w6.one,trivial⟩ (saf Z) (jn (jx (jq (jr (js (jla k0 A30 Z30 Z Z Z) (jlit (r := (rI .i32)) (l := [7,2]) U23 I21 (by decide) Z Z Z (lV Z Z (wI (wl 7)) (lV Z Z (wI (wl 2)) ln)) fun g10 => ?_)))))))
 refine js (jbu (v := .agg #[(.slice (some ⟨g10,0,none⟩) 2 2),.slice none 0 0,.slice none 0 0,.int .i64 5]) Z (fun _ => by kernel_rfl)) (jfz k0 (by (try simp) <;> omega) (jcs2 E11 Z Z (rRun_ct (i := ⟨[7,2],[],[],5⟩) sh4_good (by decide)) (dc d1 (dc (rInput.M (m := ⟨[7,2],[],[],5⟩) (c := ((.slice (some ⟨g10,0,none⟩) 2 2),.slice none 0 0,.slice none 0 0)) d0 wN wN (wl 5)) dn)) kn fun c12a c12b => jalc J26 Z fun g2 => jdq (rOutcome.c_Mem d0) fun q9 w9 => jdq (rOutcome.c_Calls d0) fun q10 w10 => jsta k0 Z26 Z Z Z ⟨Z,Z,w9.one,w10.one,Z,trivial⟩ (saf Z) (jn (jx (jq (jr (js (jla k1 A30 Z30 Z Z Z) ?_)))))))
 refine jlit (r := (rI .i32)) (l := [7]) U23 I21 (by decide) Z Z Z (lV Z Z (wI (wl 7)) ln) fun g14 => js (jbu (v := .agg #[(.slice (some ⟨g14,0,none⟩) 1 1),.slice none 0 0,.slice none 0 0,.int .i64 5]) Z (fun _ => by kernel_rfl)) (jfz k0 (by (try simp) <;> omega) (jcs2 E11 Z Z (rRun_ct (i := ⟨[7],[],[],5⟩) sh4_good (by decide)) (dc d3 (dc (rInput.M (m := ⟨[7],[],[],5⟩) (c := ((.slice (some ⟨g14,0,none⟩) 1 1),.slice none 0 0,.slice none 0 0)) d0 wN wN (wl 5)) dn)) kn fun c16a c16b => jalc J26 Z fun g3 => jdq (rOutcome.c_Mem d0) fun q13 w13 => jdq (rOutcome.c_Calls d0) fun q14 w14 => jsta k0 Z26 Z Z Z ⟨Z,Z,w13.one,w14.one,Z,trivial⟩ (saf Z) (jn (jx (jq (jr ?_))))))
 refine js (jf F26_0 Z) (js (jl k1 O3 Z Z) (js (jeql Z Z) (jm Z (jg Z Z (.t _) (fun hg => jf F26_1 Z) (jg Z Z (.t _) (fun hg => jl k1 O21 (evg Z hg) Z) (jg Z Z (.t _) (fun hg => jeql (evg Z hg) Z) (js (jand Z Z) (jm Z (jg Z Z (.t _) (fun hg => jf F26_4 Z) (jg Z Z (.t _) (fun hg => jl k1 O3 (evg Z hg) Z) (jg Z Z (.t _) (fun hg => jeql (evg Z hg) Z) ?_)))))))))))
 refine js (jand Z Z) (jm Z (jg Z Z (.t _) (fun hg => jf F26_0 Z) (jg Z Z (.t _) (fun hg => jl k0 O3 (evg Z hg) Z) (jg Z Z (.t _) (fun hg => jeql (evg Z hg) Z) (js (jand Z Z) (jm Z (jg Z Z (.t _) (fun hg => jf F26_1 Z) (jg Z Z (.t _) (fun hg => jl k0 O21 (evg Z hg) Z) (jg Z Z (.t _) (fun hg => jeql (evg Z hg) Z) (js (jand Z Z) (jm Z ?_)))))))))))
 refine jg Z Z (.t _) (fun hg => jf F26_4 Z) (jg Z Z (.t _) (fun hg => jl k0 O3 (evg Z hg) Z) (jg Z Z (.t _) (fun hg => jeql (evg Z hg) Z) (js (jand Z Z) (ja Z (jn (jx (jrt ?_)))))))
 exact jrB Z Z (sh4_law.symm)
end Go.Proofs.Ytmfkkodnghambaa
namespace Go.Proofs.Ytmfkkodnghambaa
open Go.JE
def GrS (b s : RSt) : Prop := s.st ≤ b.st ∧ b.me.length = s.me.length ∧ ∃ t,b.cl = s.cl ++ t
theorem GrS.rf {s : RSt} : GrS s s := ⟨Int.le_refl _,rfl,[],(List.append_nil _).symm⟩
theorem GrS.tr {a b c : RSt} (h : GrS a b) (h2 : GrS b c) : GrS a c := by
 obtain ⟨h3,h4,t,h5⟩ := h
 obtain ⟨h6,h7,u,h8⟩ := h2
 exact ⟨by omega,by omega,u ++ t,by rw [h5,h8,List.append_assoc]⟩
theorem stS_le (en st N : Int) : st ≤ stS en st N := by unfold stS; split <;> omega
theorem GrS.step {N : Int} {s : RSt} : GrS (stepF N s) s := ⟨stS_le _ _ _,rfl,[],(List.append_nil _).symm⟩
theorem GrS.phis {fr : Int} {l : List D.Phi} {s : RSt} : GrS (phisF fr l s) s := ⟨Int.le_refl _,rfl,[],(List.append_nil _).symm⟩
theorem GrS.ins {i : D.Ins} {s : RSt} : GrS (insF i s) s := by
 refine ⟨Int.le_refl _,inzM_len _ _ _,?_⟩
 show ∃ t,inzC i s.V s.cl = s.cl ++ t
 unfold inzC; split
 · exact ⟨_,rfl⟩
 · exact ⟨[],(List.append_nil _).symm⟩
theorem ok_t {N : Int} {s : RSt} (h : s.en = 0) (h2 : s.st < N) : stepOk N s = true ∧ stepF N s = { s with st := s.st + 1 } := by
 have e1 : stE s.en s.st N = 0 := by unfold stE; rw [if_neg (by omega)]; exact h
 refine ⟨by unfold stepOk stB; rw [e1]; rfl,?_⟩
 have e2 : stV s.en s.va s.st N = s.va := by unfold stV; rw [if_neg (by omega)]
 have e3 : stS s.en s.st N = s.st + 1 := by unfold stS; rw [if_pos e1]
 unfold stepF; rw [e1,e2,e3,← h]
section
variable {p : Int} {l : List D.Ins} {t : D.Term} {i : D.Input} {s' : RSt}
end
end Go.Proofs.Ytmfkkodnghambaa
