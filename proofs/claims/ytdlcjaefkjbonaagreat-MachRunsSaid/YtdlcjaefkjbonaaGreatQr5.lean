/- Lemmas that the claim is made of. Conditions: each lemma names its own. -/
import Derived.Test.YtdlcjaefkjbonaaGreatQr4
namespace Go.Proofs.YtdlcjaefkjbonaaGreat
set_option linter.unusedVariables false
set_option linter.unusedSimpArgs false
set_option linter.unusedSectionVars false
open Go.JE
theorem E34 : Ent Tryz.prog 34 := ⟨_, Tryz.func34, by kernel_rfl, by kernel_rfl⟩
theorem E39 : Ent Tryz.prog 39 := ⟨_, Tryz.func39, by kernel_rfl, by kernel_rfl⟩
theorem E67 : Ent Tryz.prog 67 := ⟨_, Tryz.func67, by kernel_rfl, by kernel_rfl⟩
theorem F36_1 : Fld Tryz.prog 36 1 1 := ⟨_, _, Tryz.underlying36, rfl, rfl, 1, (by unfold Sz; kernel_rfl), by decide⟩
theorem F59_3 : Fld Tryz.prog 59 3 3 := ⟨_, _, Tryz.underlying59, rfl, rfl, 1, (by unfold Sz; kernel_rfl), by decide⟩
theorem I21 : (Tryz.prog.info? 21).map (fun i => (i.zero, i.size, i.bytes)) = some (some (.int .i32 0), 1, 4) := by kernel_rfl
theorem O34 : One Tryz.prog 34 := ⟨_, Tryz.underlying34, rfl⟩
theorem rSet_ct {a0 : Value} {regs : List Int} {B0 : Nat} (r : Int) (x : Int) (hl : regs.length < 1073741824) (ww2 : IntKind.i32.wrap x = x) : Tr Tryz.prog 76 #[a0, .int .i64 r, .int .i32 x] [] [gl B0 (rI .i32) 21 a0 regs] (fun _ : Unit => .tuple #[]) (fun _ => []) (fun _ _ => [gl B0 (rI .i32) 21 a0 (setM regs r x)]) := by
  refine jenter (args := [a0, .int .i64 r, .int .i32 x]) Tryz.func76 rfl rfl rfl fun w0 X => ?_
  refine cgo k0 fun w1 => jq (jr (jm ζ (js (jgeq ζ ζ) (jm ζ (jg ζ ζ (.t _) (fun hg => jmv ζ) (jg ζ ζ (.t _) (fun hg => jmv ζ) (jg ζ ζ (.t _) (fun hg => jlg U34 k0 (evg ζ hg)) (jg ζ ζ (.t _) (fun hg => jlss (evg ζ hg) (evg ζ hg)) (js (jand ζ ζ) (jn ?_))))))))))
  refine jx ?_
  refine jif ζ (fun hc1 => ?_) (fun hc1 => ?_)
  refine jr (jm ζ (jm ζ (jm ζ (js (jig (i := (Int.toNat r)) U34 Z21 k0 ζ ζ (by omega) (by omega)) (jsg k0 ζ Z21 ζ ζ ζ (by omega) (wI (wp ww2)) (jn ?_))))))
  exact jd0 ζ () ζ dn (fun _ _ => (kcg (by first | (simp [setM, *]; done) | (unfold setM; rw [if_neg (by omega)]; done) | (unfold setM; rw [if_pos (by omega)]; done)) k0 kn))
  refine jsk ?_
  exact jd0 ζ () ζ dn (fun _ _ => (kcg (by first | (simp [setM, *]; done) | (unfold setM; rw [if_neg (by omega)]; done) | (unfold setM; rw [if_pos (by omega)]; done)) k0 kn))
theorem pGoes_ct {a0 : Value} {e : D.End} {a1 : Value} {regs : List Int} : Tv Tryz.prog 35 #[vEnd e a0, a1] [da rEnd (vEnd e a0) e, dv (rL (rI .i32)) a1 regs] [] (.int .i64 (goesM e regs)) := by
  refine jenter (args := [vEnd e a0, a1]) Tryz.func35 rfl rfl rfl fun w0 X => ?_
  refine jq (jr (jbox ζ ζ fun g2 => ja ζ (jn (jx (jq (jany false (.a 0 (.a 1 (.a 2 (.a 4 (.a 5 (.a 6 (.o 3 (.o 7 (.a 8 (.a 9 .e)))))))))) Mixed (by kernel_rfl) (kc k0 kn) fun F1 => jy ζ (jmv ζ) (jy ζ (jf F59_1 ζ) (jy ζ (jl k0 O3 ζ ζ) (jy ζ (jmv ζ) ?_)))))))))
  refine jy ζ (jf F59_2 ζ) (jy ζ (jl k0 O3 ζ ζ) (jyo ζ (jdq d2 fun q3 w3 => jcv E34 ζ ζ (pGet_ct e.A) (dc d2 dn) kn (jyn d0 (kc k0 kn) (jyo ζ (jcv E34 ζ ζ (pGet_ct e.B) (dc d3 dn) kn (jyn d0 (kc k0 kn) (jy ζ (jas ζ) (jy ζ (jas ζ) (jyd ?_))))))))))
  refine jx (jq (jr (ja ζ (jn (jx (jq (jq (jr (js (jf F59_0 ζ) (js (jl k0 O3 ζ ζ) (jn ?_)))))))))))
  refine jx (jb (jq (jr (js (jeql ζ ζ) (ja ζ (jn (jx ?_)))))))
  refine jif ζ (fun hc1 => ?_) (fun hc1 => ?_)
  refine jr (ja ζ (jn (jbn (jx (jq (jq (jr (jm ζ (jn (jx ?_))))))))))
  refine jif ζ (fun hc2 => ?_) (fun hc2 => ?_)
  refine jq (jr (ja ζ (jn (jx (jrt (jtr ?_))))))
  exact jrI ζ ζ (by first | (simp [goesM, *]; done) | (unfold goesM; (repeat' split) <;> first | rfl | (exfalso; omega) | simp_all))
  exact absurd hc2 (by simp)
  refine jq (jr (js (jeql ζ ζ) (ja ζ (jn (jx ?_)))))
  refine jif ζ (fun hc3 => ?_) (fun hc3 => ?_)
  refine jr (jm ζ (js (jneq ζ ζ) (ja ζ (jn (jbn (jx (jq (jq (jr (jm ζ (jn ?_)))))))))))
  refine jx ?_
  refine jif ζ (fun hc4 => ?_) (fun hc4 => ?_)
  refine jq (jr (ja ζ (jn (jx (jrt (jtr ?_))))))
  exact jrI ζ ζ (by first | (simp [goesM, *]; done) | (unfold goesM; (repeat' split) <;> first | rfl | (exfalso; omega) | simp_all))
  refine jsk (jx (jq (jr (ja ζ (jn (jx (jrt ?_)))))))
  exact jrI ζ ζ (by first | (simp [goesM, *]; done) | (unfold goesM; (repeat' split) <;> first | rfl | (exfalso; omega) | simp_all))
  refine jq (jr (js (jeql ζ ζ) (ja ζ (jn (jx ?_)))))
  refine jif ζ (fun hc5 => ?_) (fun hc5 => ?_)
  refine jr (jm ζ (jm ζ (js (jeql ζ ζ) (ja ζ (jn (jbn (jx (jq (jq (jr (jm ζ ?_)))))))))))
  refine jn (jx ?_)
  refine jif ζ (fun hc6 => ?_) (fun hc6 => ?_)
  refine jq (jr (ja ζ (jn (jx (jrt (jtr ?_))))))
  exact jrI ζ ζ (by first | (simp [goesM, *]; done) | (unfold goesM; (repeat' split) <;> first | rfl | (exfalso; omega) | simp_all))
  refine jsk (jx (jq (jr (ja ζ (jn (jx (jrt ?_)))))))
  exact jrI ζ ζ (by first | (simp [goesM, *]; done) | (unfold goesM; (repeat' split) <;> first | rfl | (exfalso; omega) | simp_all))
  refine jq (jr (js (jeql ζ ζ) (ja ζ (jn (jx ?_)))))
  refine jif ζ (fun hc7 => ?_) (fun hc7 => ?_)
  refine jr (jm ζ (jm ζ (js (jlss ζ ζ) (ja ζ (jn (jbn (jx (jq (jq (jr (jm ζ ?_)))))))))))
  refine jn (jx ?_)
  refine jif ζ (fun hc8 => ?_) (fun hc8 => ?_)
  refine jq (jr (ja ζ (jn (jx (jrt (jtr ?_))))))
  exact jrI ζ ζ (by first | (simp [goesM, *]; done) | (unfold goesM; (repeat' split) <;> first | rfl | (exfalso; omega) | simp_all))
  refine jsk (jx (jq (jr (ja ζ (jn (jx (jrt ?_)))))))
  exact jrI ζ ζ (by first | (simp [goesM, *]; done) | (unfold goesM; (repeat' split) <;> first | rfl | (exfalso; omega) | simp_all))
  refine jq (jr (js (jeql ζ ζ) (ja ζ (jn (jx ?_)))))
  refine jif ζ (fun hc9 => ?_) (fun hc9 => ?_)
  refine jr (jm ζ (js (jco U21 U139 ζ ζ) (jm ζ (js (jco U21 U139 ζ ζ) (js (jlss ζ ζ) (ja ζ (jn (jbn (jx (jq (jq ?_)))))))))))
  refine jr (jm ζ (jn (jx ?_)))
  refine jif ζ (fun hc10 => ?_) (fun hc10 => ?_)
  refine jq (jr (ja ζ (jn (jx (jrt (jtr ?_))))))
  exact jrI ζ ζ (by first | (simp [goesM, *]; done) | (unfold goesM; (repeat' split) <;> first | rfl | (exfalso; omega) | simp_all))
  refine jsk (jx (jq (jr (ja ζ (jn (jx (jrt ?_)))))))
  exact jrI ζ ζ (by first | (simp [goesM, *]; done) | (unfold goesM; (repeat' split) <;> first | rfl | (exfalso; omega) | simp_all))
  refine jq (jr (js (jeql ζ ζ) (ja ζ (jn (jx ?_)))))
  refine jif ζ (fun hc11 => ?_) (fun hc11 => ?_)
  refine jq (jr (js (jf F59_3 ζ) (js (jl k0 O22 ζ ζ) (jdq (rEnd.c_To d2) fun q5 w5 => js (jln U22 (rEnd.c_To d2) ζ) (js (jsub ζ ζ (by omega)) (ja ζ (jn (jx (jq (jq ?_))))))))))
  refine jr (jm ζ (js (jco U21 U139 ζ ζ) (js (jco U139 U2 ζ (up_u32_i64 (wrap_wrap _ _))) (ja ζ (jn (jx (jq (jr (jm ζ (jm ζ (js (jlss ζ ζ) ?_)))))))))))
  refine jn (jx ?_)
  refine jif ζ (fun hc12 => ?_) (fun hc12 => ?_)
  refine jq (jr (jm ζ (ja ζ (jn (jx (jrt (jtr (jbr (jtr ?_)))))))))
  exact jrI ζ ζ (by first | (simp [goesM, *]; done) | (unfold goesM; (repeat' split) <;> first | rfl | (exfalso; omega) | simp_all))
  refine jsk (jx (jq (jr (jm ζ (ja ζ (jn (jx (jrt (jbr (jtr ?_))))))))))
  exact jrI ζ ζ (by first | (simp [goesM, *]; done) | (unfold goesM; (repeat' split) <;> first | rfl | (exfalso; omega) | simp_all))
  refine jq (jr (ja ζ (jn (jx (jrt (jbr (jtr ?_)))))))
  exact jrI ζ ζ (by first | (simp [goesM, *]; done) | (unfold goesM; (repeat' split) <;> first | rfl | (exfalso; omega) | simp_all))
theorem rGoes_ct {a0 : Value} {e : D.End} {a1 : Value} {regs : List Int} : Tv Tryz.prog 40 #[vEnd e a0, a1] [da rEnd (vEnd e a0) e, dv (rL (rI .i32)) a1 regs] [] (.int .i64 (goesM e regs)) := by
  refine jenter (args := [vEnd e a0, a1]) Tryz.func40 rfl rfl rfl fun w0 X => ?_
  refine jq (jr (jbox ζ ζ fun g2 => ja ζ (jn (jx (jq (jr (jm ζ (js (jf F59_1 ζ) (js (jl k0 O3 ζ ζ) (jdq d1 fun q1 w1 => ?_))))))))))
  refine jcv E39 ζ ζ (rGet_ct e.A) (dc d1 dn) kn (ja ζ (jn (jx (jq (jr (jm ζ (js (jf F59_2 ζ) (js (jl k0 O3 ζ ζ) (jcv E39 ζ ζ (rGet_ct e.B) (dc d1 dn) kn (ja ζ (jn ?_)))))))))))
  refine jx (jq (jr (ja ζ (jn (jx (jq (jq (jr (js (jf F59_0 ζ) (js (jl k0 O3 ζ ζ) (jn ?_)))))))))))
  refine jx (jb (jq (jr (js (jeql ζ ζ) (ja ζ (jn (jx ?_)))))))
  refine jif ζ (fun hc1 => ?_) (fun hc1 => ?_)
  refine jq (jr (ja ζ (jn (jx (jrt (jbr (jtr ?_)))))))
  exact jrI ζ ζ (by first | (simp [goesM, *]; done) | (unfold goesM; (repeat' split) <;> first | rfl | (exfalso; omega) | simp_all))
  refine jq (jr (js (jeql ζ ζ) (ja ζ (jn (jx ?_)))))
  refine jif ζ (fun hc2 => ?_) (fun hc2 => ?_)
  refine jr (jm ζ (js (jneq ζ ζ) (ja ζ (jn (jbn (jx (jq (jq (jr (jm ζ (jn ?_)))))))))))
  refine jx ?_
  refine jif ζ (fun hc3 => ?_) (fun hc3 => ?_)
  refine jq (jr (ja ζ (jn (jx (jrt (jtr ?_))))))
  exact jrI ζ ζ (by first | (simp [goesM, *]; done) | (unfold goesM; (repeat' split) <;> first | rfl | (exfalso; omega) | simp_all))
  refine jsk (jx (jq (jr (ja ζ (jn (jx (jrt ?_)))))))
  exact jrI ζ ζ (by first | (simp [goesM, *]; done) | (unfold goesM; (repeat' split) <;> first | rfl | (exfalso; omega) | simp_all))
  refine jq (jr (js (jeql ζ ζ) (ja ζ (jn (jx ?_)))))
  refine jif ζ (fun hc4 => ?_) (fun hc4 => ?_)
  refine jr (jm ζ (jm ζ (js (jeql ζ ζ) (ja ζ (jn (jbn (jx (jq (jq (jr (jm ζ ?_)))))))))))
  refine jn (jx ?_)
  refine jif ζ (fun hc5 => ?_) (fun hc5 => ?_)
  refine jq (jr (ja ζ (jn (jx (jrt (jtr ?_))))))
  exact jrI ζ ζ (by first | (simp [goesM, *]; done) | (unfold goesM; (repeat' split) <;> first | rfl | (exfalso; omega) | simp_all))
  refine jsk (jx (jq (jr (ja ζ (jn (jx (jrt ?_)))))))
  exact jrI ζ ζ (by first | (simp [goesM, *]; done) | (unfold goesM; (repeat' split) <;> first | rfl | (exfalso; omega) | simp_all))
  refine jq (jr (js (jeql ζ ζ) (ja ζ (jn (jx ?_)))))
  refine jif ζ (fun hc6 => ?_) (fun hc6 => ?_)
  refine jr (jm ζ (jm ζ (js (jlss ζ ζ) (ja ζ (jn (jbn (jx (jq (jq (jr (jm ζ ?_)))))))))))
  refine jn (jx ?_)
  refine jif ζ (fun hc7 => ?_) (fun hc7 => ?_)
  refine jq (jr (ja ζ (jn (jx (jrt (jtr ?_))))))
  exact jrI ζ ζ (by first | (simp [goesM, *]; done) | (unfold goesM; (repeat' split) <;> first | rfl | (exfalso; omega) | simp_all))
  refine jsk (jx (jq (jr (ja ζ (jn (jx (jrt ?_)))))))
  exact jrI ζ ζ (by first | (simp [goesM, *]; done) | (unfold goesM; (repeat' split) <;> first | rfl | (exfalso; omega) | simp_all))
  refine jq (jr (js (jeql ζ ζ) (ja ζ (jn (jx ?_)))))
  refine jif ζ (fun hc8 => ?_) (fun hc8 => ?_)
  refine jr (jm ζ (js (jco U21 U139 ζ ζ) (jm ζ (js (jco U21 U139 ζ ζ) (js (jlss ζ ζ) (ja ζ (jn (jbn (jx (jq (jq ?_)))))))))))
  refine jr (jm ζ (jn (jx ?_)))
  refine jif ζ (fun hc9 => ?_) (fun hc9 => ?_)
  refine jq (jr (ja ζ (jn (jx (jrt (jtr ?_))))))
  exact jrI ζ ζ (by first | (simp [goesM, *]; done) | (unfold goesM; (repeat' split) <;> first | rfl | (exfalso; omega) | simp_all))
  refine jsk (jx (jq (jr (ja ζ (jn (jx (jrt ?_)))))))
  exact jrI ζ ζ (by first | (simp [goesM, *]; done) | (unfold goesM; (repeat' split) <;> first | rfl | (exfalso; omega) | simp_all))
  refine jq (jr (js (jeql ζ ζ) (ja ζ (jn (jx ?_)))))
  refine jif ζ (fun hc10 => ?_) (fun hc10 => ?_)
  refine jq (jr (js (jf F59_3 ζ) (js (jl k0 O22 ζ ζ) (jdq (rEnd.c_To d0) fun q2 w2 => js (jln U22 (rEnd.c_To d0) ζ) (js (jsub ζ ζ (by omega)) (ja ζ (jn (jx (jq (jq ?_))))))))))
  refine jr (jm ζ (js (jco U21 U139 ζ ζ) (js (jco U139 U2 ζ (up_u32_i64 (wrap_wrap _ _))) (jm ζ (js (jlss ζ ζ) (jn (jx ?_)))))))
  refine jif ζ (fun hc11 => ?_) (fun hc11 => ?_)
  refine jq (jr (jm ζ (js (jco U21 U139 ζ ζ) (js (jco U139 U3 ζ (up_u32_i64 (wrap_wrap _ _))) (ja ζ (jn (jx (jrt (jtr (jbr (jtr ?_)))))))))))
  exact jrI ζ ζ (by first | (simp [goesM, *]; done) | (unfold goesM; (repeat' split) <;> first | rfl | (exfalso; omega) | simp_all))
  refine jsk (jx (jq (jr (jm ζ (ja ζ (jn (jx (jrt (jbr (jtr ?_))))))))))
  exact jrI ζ ζ (by first | (simp [goesM, *]; done) | (unfold goesM; (repeat' split) <;> first | rfl | (exfalso; omega) | simp_all))
  refine jq (jr (ja ζ (jn (jx (jrt (jbr (jtr ?_)))))))
  exact jrI ζ ζ (by first | (simp [goesM, *]; done) | (unfold goesM; (repeat' split) <;> first | rfl | (exfalso; omega) | simp_all))
theorem clone32_ct {a0 : Value} {l : List Int} : Tg Tryz.prog 67 #[a0] [dv (rL (rI .i32)) a0 l] [] (rI .i32) 21 l := by
  refine jenter (args := [a0]) Tryz.func67 rfl rfl rfl fun w0 X => ?_
  refine jq (jr (ja ζ (jn (jx (jq (jq (jr (jm ζ (jeb (jeqlNil U34 d0 ζ ζ) fun b4 hnil4 => jn (jx ?_))))))))))
  refine jif ζ (fun hc1 => ?_) (fun hc1 => ?_)
  refine jq (jr (ja ζ (jn (jx (jrt (jtr (qnl (r := (rI .i32)) (E := 21) ?_)))))))
  exact jrG ζ ζ (by first | rfl | exact hnil4 hc1) k0
  refine jsk (jx (jq (jr (jlit (r := (rI .i32)) (l := []) U34 I21 (by decide) ζ ζ ζ ln fun g5 => jm ζ (jdq d0 fun q2 w2 => japlz U34 I21 (by decide) ζ k0 ζ ζ d0 (by omega) fun v7 w3 => ja ζ (jn (jx (jrt ?_))))))))
  exact jrG ζ ζ (by first | rfl | exact hnil4 hc1) k0
theorem rMem_ct {a0a a0b a0c : Value} {i : D.Input} : Tg Tryz.prog 37 #[vInput i (a0a, a0b, a0c)] [da rInput (vInput i (a0a, a0b, a0c)) i] [] (rI .i32) 21 (memM i) := by
  refine jenter (args := [vInput i (a0a, a0b, a0c)]) Tryz.func37 rfl rfl rfl fun w0 X => ?_
  refine jq (jr (jbox ζ ζ fun g1 => ja ζ (jn (jx (jq (jr (jlit (r := (rI .i32)) (l := []) U34 I21 (by decide) ζ ζ ζ ln fun g3 => js (jf F36_1 ζ) (js (jl k1 O34 ζ ζ) (js (jf F36_1 ζ) ?_)))))))))
  refine js (jl k1 O34 ζ ζ) (jdq (rInput.c_Mem d0) fun q1 w1 => js (jln U34 (rInput.c_Mem d0) ζ) (js (jmin ζ ζ) (js (jshi (hi := (Int.toNat (min (↑(List.length i.Mem)) 4096))) U34 Z21 (rInput.c_Mem d0) ζ ζ (by omega) (by omega)) (jdq (dhi (rInput.c_Mem d0) (Int.toNat (min (↑(List.length i.Mem)) 4096)) (by omega) (by omega)) fun q2 w2 => japlz U34 I21 (by decide) ζ k0 ζ ζ (dhi (rInput.c_Mem d0) (Int.toNat (min (↑(List.length i.Mem)) 4096)) (by omega) (by omega)) (by (try simp) <;> omega) fun v11 w3 => ja ζ (jn (jx (jrt ?_)))))))
  exact jrG ζ ζ (take_min _ 4096 _ rfl) k0
theorem pMem_ct {a0a a0b a0c : Value} {i : D.Input} : Tg Tryz.prog 30 #[vInput i (a0a, a0b, a0c)] [da rInput (vInput i (a0a, a0b, a0c)) i] [] (rI .i32) 21 (memM i) := by
  refine jenter (args := [vInput i (a0a, a0b, a0c)]) Tryz.func30 rfl rfl rfl fun w0 X => ?_
  refine jq (jr (jbox ζ ζ fun g1 => ja ζ (jn (jx (jq (jr (js (jf F36_1 ζ) (js (jl k0 O34 ζ ζ) (js (jf F36_1 ζ) (js (jl k0 O34 ζ ζ) ?_))))))))))
  refine jdq (rInput.c_Mem d0) fun q1 w1 => js (jln U34 (rInput.c_Mem d0) ζ) (js (jmin ζ ζ) (js (jshi (hi := (Int.toNat (min (↑(List.length i.Mem)) 4096))) U34 Z21 (rInput.c_Mem d0) ζ ζ (by omega) (by omega)) (jdq (dhi (rInput.c_Mem d0) (Int.toNat (min (↑(List.length i.Mem)) 4096)) (by omega) (by omega)) fun q2 w2 => jcg E67 ζ ζ clone32_ct (dc (dhi (rInput.c_Mem d0) (Int.toNat (min (↑(List.length i.Mem)) 4096)) (by omega) (by omega)) dn) kn fun v10 w3 => ja ζ (jn (jx (jrt ?_))))))
  exact jrG ζ ζ (take_min _ 4096 _ rfl) k0
theorem words_ct {a0 : Value} {a : List Int} {a1 : Value} {b : List Int} : Tv Tryz.prog 19 #[a0, a1] [dv (rL (rI .i32)) a0 a, dv (rL (rI .i32)) a1 b] [] (.bool (rowsM a b)) := by
  refine jenter (args := [a0, a1]) Tryz.func19 rfl rfl rfl fun w0 X => ?_
  refine jq (jr (ja ζ (jn (jx (jq (jq (jr (jm ζ (jdq d0 fun q1 w1 => js (jln U34 d0 ζ) (jm ζ ?_))))))))))
  refine jdq d1 fun q2 w2 => js (jln U34 d1 ζ) (js (jneq ζ ζ) (jn (jx ?_)))
  refine jif ζ (fun hc1 => ?_) (fun hc1 => ?_)
  refine jq (jr (ja ζ (jn (jx (jrt (jtr ?_))))))
  exact jrB ζ ζ (rowsM_len (by omega))
  refine jsk (jx (jq (jq (jr (ja ζ (jn (jx (jb ?_))))))))
  refine jlp (fun (k : Nat) => ⟨k ≤ a.length ∧ a.take k = b.take k, [dv (rL (rI .i32)) a0 a, dv (rL (rI .i32)) a1 b], [], [(0, a0), (1, a1), (5, .int .i64 (↑k))], a.length - k⟩) 0 ⟨by omega, rfl⟩ (dc d0 (dc d1 dn)) kn ⟨ζ, ζ, eqI (by omega), trivial⟩ ?_
  rintro k; dsimp only; rintro ⟨hk, hR⟩
  refine jq (jq (jr (jm ζ (jm ζ (js (jln U34 d0 ζ) (js (jlss ζ ζ) (jn (jx ?_))))))))
  refine jif ζ (fun hc2 => ?_) (fun hc2 => ?_)
  refine jsk (jx (jq (jb (jq (jstl Mixed (by kernel_rfl) (jt (jmv ζ) (jt (jmv ζ) (jt (jix U34 Z21 d0 ζ ζ ζ (by omega)) (jt (jlI (dix d0 k (by omega)) O21 ζ) (jt (jmv ζ) (jt (jmv ζ) ?_)))))))))))
  refine jt (jix U34 Z21 d1 ζ ζ ζ (by omega)) (jt (jlI (dix d1 k (by omega)) O21 ζ) (jt (jneq ζ ζ) (jdn (jx ?_))))
  refine jif ζ (fun hc3 => ?_) (fun hc3 => ?_)
  refine jq (jr (ja ζ (jn (jx (jrt (jbr (jtr (jtr (jbr (jtr ?_))))))))))
  exact jrB ζ ζ (by first | exact rowsM_at (k := k) (by omega) (by omega) hc3 | exact rowsM_yes (k := k) (by omega) (by omega) hR)
  refine jsk (jbn (jx (jr (jm ζ (js (jadd ζ ζ (by omega)) (ja ζ (jn ?_)))))))
  exact jag (k + 1) ⟨by omega, by rw [take_ix (by omega), take_ix (by omega), hR, hc3]⟩ (dc d0 (dc d1 dn)) kn ⟨ζ, ζ, eqI (by omega), trivial⟩
  refine jex (jtx (jtx (jbh (jx (jq (jr (ja ζ (jn (jx (jrt ?_))))))))))
  exact jrB ζ ζ (by first | exact rowsM_at (k := k) (by omega) (by omega) hc3 | exact rowsM_yes (k := k) (by omega) (by omega) hR)
end Go.Proofs.YtdlcjaefkjbonaaGreat
namespace Go.Proofs.YtdlcjaefkjbonaaGreat
set_option linter.unusedVariables false
set_option linter.unusedSimpArgs false
set_option linter.unusedSectionVars false
open Go.JE
abbrev U134 := @Tryz.underlying134
theorem E70 : Ent Tryz.prog 70 := ⟨_, Tryz.func70, by kernel_rfl, by kernel_rfl⟩
theorem E71 : Ent Tryz.prog 71 := ⟨_, Tryz.func71, by kernel_rfl, by kernel_rfl⟩
theorem E73 : Ent Tryz.prog 73 := ⟨_, Tryz.func73, by kernel_rfl, by kernel_rfl⟩
theorem E74 : Ent Tryz.prog 74 := ⟨_, Tryz.func74, by kernel_rfl, by kernel_rfl⟩
theorem E75 : Ent Tryz.prog 75 := ⟨_, Tryz.func75, by kernel_rfl, by kernel_rfl⟩
theorem E76 : Ent Tryz.prog 76 := ⟨_, Tryz.func76, by kernel_rfl, by kernel_rfl⟩
theorem E77 : Ent Tryz.prog 77 := ⟨_, Tryz.func77, by kernel_rfl, by kernel_rfl⟩
theorem E78 : Ent Tryz.prog 78 := ⟨_, Tryz.func78, by kernel_rfl, by kernel_rfl⟩
theorem E79 : Ent Tryz.prog 79 := ⟨_, Tryz.func79, by kernel_rfl, by kernel_rfl⟩
theorem E80 : Ent Tryz.prog 80 := ⟨_, Tryz.func80, by kernel_rfl, by kernel_rfl⟩
theorem F46_6 : Fld Tryz.prog 46 6 6 := ⟨_, _, Tryz.underlying46, rfl, rfl, 1, (by unfold Sz; kernel_rfl), by decide⟩
theorem pSet_ct (r : Int) (x : Int) {a2 : Value} {regs : List Int} {g2 : Nat} {B2 : Nat} (hl : regs.length < 1073741824) (ww1 : IntKind.i32.wrap x = x) : Tr Tryz.prog 70 #[.int .i64 r, .int .i32 x, .pointer (some ⟨g2, 0, none⟩)] [] [gl B2 (rI .i32) 21 a2 regs, bx g2 34 [a2]] (fun _ : Unit => .tuple #[]) (fun _ => []) (fun _ _ => [gl B2 (rI .i32) 21 a2 (setM regs r x), bx g2 34 [a2]]) := by
  refine jenter (args := [.int .i64 r, .int .i32 x, .pointer (some ⟨g2, 0, none⟩)]) Tryz.func70 rfl rfl rfl fun w0 X => ?_
  refine cgo k0 fun w1 => jq (jr (jm ζ (js (jgeq ζ ζ) (jm ζ (jg ζ ζ (.t _) (fun hg => jmv ζ) (jg ζ ζ (.t _) (fun hg => jl k1 O34 ζ ζ) (jg ζ ζ (.t _) (fun hg => jlg U34 k0 (evg ζ hg)) (jg ζ ζ (.t _) (fun hg => jlss (evg ζ hg) (evg ζ hg)) (js (jand ζ ζ) (jn ?_))))))))))
  refine jx ?_
  refine jif ζ (fun hc1 => ?_) (fun hc1 => ?_)
  refine jr (js (jl k1 O34 ζ ζ) (jm ζ (jm ζ (js (jig (i := (Int.toNat r)) U34 Z21 k0 ζ ζ (by omega) (by omega)) (jsg k0 ζ Z21 ζ ζ ζ (by omega) (wI (wp ww1)) (jn ?_))))))
  exact jd0 ζ () ζ dn (fun _ _ => (kcg (by first | (simp [setM, *]; done) | (unfold setM; rw [if_neg (by omega)]; done) | (unfold setM; rw [if_pos (by omega)]; done)) k0 (kc k0 kn)))
  refine jsk ?_
  exact jd0 ζ () ζ dn (fun _ _ => (kcg (by first | (simp [setM, *]; done) | (unfold setM; rw [if_neg (by omega)]; done) | (unfold setM; rw [if_pos (by omega)]; done)) k0 (kc k0 kn)))
set_option maxHeartbeats 4000000 in
theorem rDoM_ct {a0 : Value} {i : D.Mach} {a1 : Value} {regs : List Int} {B1 : Nat} {a2 : Value} {mem : List Int} {B2 : Nat} (hl : regs.length < 1073741824) (hl2 : mem.length < 1073741824) : Tr Tryz.prog 38 #[vMach i a0, a1, a2] [da rMach (vMach i a0) i] [gl B1 (rI .i32) 21 a1 regs, gl B2 (rI .i32) 21 a2 mem] (fun _ : Unit => .tuple #[.int .i32 ((stepM i regs mem).1.1), .bool ((stepM i regs mem).1.2)]) (fun _ => []) (fun _ _ => [gl B1 (rI .i32) 21 a1 ((stepM i regs mem).2.1), gl B2 (rI .i32) 21 a2 ((stepM i regs mem).2.2)]) := by
  refine jenter (args := [vMach i a0, a1, a2]) Tryz.func38 rfl rfl rfl fun w0 X => ?_
  refine cgo k0 fun w1 => cgo k1 fun w2 => jq (jr (jbox ζ ζ fun g3 => ja ζ (ja ζ (jn (jx (jq (jr (jm ζ ?_))))))))
  refine js (jf F46_3 ζ) (js (jl k0 O3 ζ ζ) (jc E39 ζ ζ (Tv.temp 1073741824 (rGet_ct i.A) (by omega)) dn (kc k1 kn) (fun _ => p0) (fun _ => p1) fun _ => jwr (wgt k0 i.A) fun w3 => ja ζ (jn (jx (jq (jr (jm ζ (js (jf F46_4 ζ) (js (jl k1 O3 ζ ζ) ?_)))))))))
  refine jc E39 ζ ζ (Tv.temp 1073741824 (rGet_ct i.B) (by omega)) dn (kc k0 kn) (fun _ => p0) (fun _ => p1) fun _ => ja ζ (jn (jx (jq (jr (jm ζ (js (jf F46_5 ζ) (js (jl k1 O3 ζ ζ) (jc E39 ζ ζ (Tv.temp 1073741824 (rGet_ct i.C) (by omega)) dn (kc k0 kn) (fun _ => p0) (fun _ => p1) fun _ => ja ζ (jn ?_)))))))))
  refine jx (jq (jb (jq (jr (js (jf F46_0 ζ) (js (jl k1 O3 ζ ζ) (js (jeql ζ ζ) (ja ζ (jn (jx ?_))))))))))
  refine jif ζ (fun hc1 => ?_) (fun hc1 => ?_)
  refine jr (jm ζ (js (jf F46_1 ζ) (js (jl k1 O3 ζ ζ) (jm ζ (jc E76 ζ ζ (rSet_ct i.D (getM regs i.A) (by first | omega | (simp only [setM_len, storeM_len]; omega)) w3) dn (kc k0 kn) (fun _ => p0) (fun _ => p1) fun _ => jn (jbn (jx (jq (jr (ja ζ ?_))))))))))
  refine ja ζ (jn (jx (jrt ?_)))
  have hm : stepM i regs mem = ((0, true), setM regs i.D (getM regs i.A), mem) := (by unfold stepM; (repeat rw [if_neg (by omega)]) <;> (try rw [if_pos (by omega)]) <;> first | rfl | (simp [*]; done) | (simp [immOp, *]; done))
  exact jr2 ζ ζ ζ () (by rw [hm]) dn (fun _ _ => (kcg (by rw [hm]) k0 (kcg (by rw [hm]) k1 kn)))
  refine jq (jr (js (jf F46_0 ζ) (js (jl k1 O3 ζ ζ) (js (jeql ζ ζ) (ja ζ (jn (jx ?_)))))))
  refine jif ζ (fun hc2 => ?_) (fun hc2 => ?_)
  refine jq (jr (jm ζ (js (jf F46_3 ζ) (js (jl k1 O3 ζ ζ) (jm ζ (jwr (wgt k0 i.B) fun w4 => jc E76 ζ ζ (rSet_ct i.A (getM regs i.B) (by first | omega | (simp only [setM_len, storeM_len]; omega)) w4) dn (kc k0 kn) (fun _ => p0) (fun _ => p1) fun _ => jn (jx (jr (jm ζ ?_)))))))))
  refine js (jf F46_4 ζ) (js (jl k1 O3 ζ ζ) (jm ζ (jc E76 ζ ζ (rSet_ct i.B (getM regs i.A) (by first | omega | (simp only [setM_len, storeM_len]; omega)) w3) dn (kc k0 kn) (fun _ => p0) (fun _ => p1) fun _ => jn (jbn (jx (jq (jr (ja ζ (ja ζ (jn ?_))))))))))
  refine jx (jrt ?_)
  have hm : stepM i regs mem = ((0, true), setM (setM regs i.A (getM regs i.B)) i.B (getM regs i.A), mem) := (by unfold stepM; (repeat rw [if_neg (by omega)]) <;> (try rw [if_pos (by omega)]) <;> first | rfl | (simp [*]; done) | (simp [immOp, *]; done))
  exact jr2 ζ ζ ζ () (by rw [hm]) dn (fun _ _ => (kcg (by rw [hm]) k0 (kcg (by rw [hm]) k1 kn)))
  refine jq (jr (js (jf F46_0 ζ) (js (jl k1 O3 ζ ζ) (js (jeql ζ ζ) (jm ζ (jg ζ ζ (.f _) (fun hg => jf F46_0 ζ) (jg ζ ζ (.f _) (fun hg => jl k1 O3 (evg ζ hg) ζ) (jg ζ ζ (.f _) (fun hg => jeql (evg ζ hg) ζ) (js (jor ζ ζ) (ja ζ (jn ?_)))))))))))
  refine jx ?_
  refine jif ζ (fun hc3 => ?_) (fun hc3 => ?_)
  refine jr (jm ζ (js (jf F46_1 ζ) (js (jl k1 O3 ζ ζ) (js (jf F46_6 ζ) (js (jl k1 O21 ζ ζ) (jwr (rMach.W_Imm d0) fun w5 => jc E76 ζ ζ (rSet_ct i.D i.Imm (by first | omega | (simp only [setM_len, storeM_len]; omega)) w5) dn (kc k0 kn) (fun _ => p0) (fun _ => p1) fun _ => jn (jbn (jx (jq ?_)))))))))
  refine jr (ja ζ (ja ζ (jn (jx (jrt ?_)))))
  have hm : stepM i regs mem = ((0, true), setM regs i.D i.Imm, mem) := (by unfold stepM; (repeat rw [if_neg (by omega)]) <;> (try rw [if_pos (by omega)]) <;> first | rfl | (simp [*]; done) | (simp [immOp, *]; done))
  exact jr2 ζ ζ ζ () (by rw [hm]) dn (fun _ _ => (kcg (by rw [hm]) k0 (kcg (by rw [hm]) k1 kn)))
  refine jq (jr (js (jf F46_0 ζ) (js (jl k1 O3 ζ ζ) (js (jgeq ζ ζ) (jm ζ (jg ζ ζ (.t _) (fun hg => jf F46_0 ζ) (jg ζ ζ (.t _) (fun hg => jl k1 O3 (evg ζ hg) ζ) (jg ζ ζ (.t _) (fun hg => jleq (evg ζ hg) ζ) (js (jand ζ ζ) (ja ζ (jn ?_)))))))))))
  refine jx ?_
  refine jif ζ (fun hc4 => ?_) (fun hc4 => ?_)
  refine jq (jr (js (jf F46_0 ζ) (js (jl k1 O3 ζ ζ) (js (jsub ζ ζ (by omega)) (js (jadd ζ ζ (by omega)) (jm ζ (jm ζ (jwr (wgt k0 i.B) fun w6 => jcv E77 ζ ζ (rDo_ct ((i.Op - 5) + 2) (getM regs i.A) (getM regs i.B) w3 w6) dn kn (jm ζ (js (jex' ζ ζ) ?_))))))))))
  refine js (jex' ζ ζ) (ja ζ (ja ζ (jn (jx (jq (jq (jr (jm ζ (js (jnot ζ) (jn (jx ?_)))))))))))
  refine jif ζ (fun hc5 => ?_) (fun hc5 => ?_)
  refine jq (jr (ja ζ (ja ζ (jn (jx (jrt (jtr (jbr (jtr ?_)))))))))
  have hm : stepM i regs mem = (((-1), false), regs, mem) := (by unfold stepM; (repeat rw [if_neg (by omega)]) <;> (try rw [if_pos (by omega)]) <;> first | rfl | (simp [*]; done) | (simp [immOp, *]; done))
  exact jr2 ζ ζ ζ () (by rw [hm]) dn (fun _ _ => (kcg (by rw [hm]) k0 (kcg (by rw [hm]) k1 kn)))
  refine jsk (jx (jr (jm ζ (js (jf F46_1 ζ) (js (jl k1 O3 ζ ζ) (jm ζ (jwr (wdo (wp w3)) fun w7 => jc E76 ζ ζ (rSet_ct i.D ((doM ((i.Op - 5) + 2) (getM regs i.A) (getM regs i.B)).1) (by first | omega | (simp only [setM_len, storeM_len]; omega)) w7) dn (kc k0 kn) (fun _ => p0) (fun _ => p1) fun _ => jn (jbn (jx ?_)))))))))
  refine jq (jr (ja ζ (ja ζ (jn (jx (jrt ?_))))))
  have hm : stepM i regs mem = ((0, true), setM regs i.D ((doM ((i.Op - 5) + 2) (getM regs i.A) (getM regs i.B)).1), mem) := (by unfold stepM; (repeat rw [if_neg (by omega)]) <;> (try rw [if_pos (by omega)]) <;> first | rfl | (simp [*]; done) | (simp [immOp, *]; done))
  exact jr2 ζ ζ ζ () (by rw [hm]) dn (fun _ _ => (kcg (by rw [hm]) k0 (kcg (by rw [hm]) k1 kn)))
  refine jq (jr (js (jf F46_0 ζ) (js (jl k1 O3 ζ ζ) (js (jgeq ζ ζ) (jm ζ (jg ζ ζ (.t _) (fun hg => jf F46_0 ζ) (jg ζ ζ (.t _) (fun hg => jl k1 O3 (evg ζ hg) ζ) (jg ζ ζ (.t _) (fun hg => jleq (evg ζ hg) ζ) (js (jand ζ ζ) (ja ζ (jn ?_)))))))))))
  refine jx ?_
  refine jif ζ (fun hc6 => ?_) (fun hc6 => ?_)
  refine jq (jr (js (jbu (v := .agg #[.int .i64 2, .int .i64 5, .int .i64 8, .int .i64 9, .int .i64 10]) ζ (fun _ => by kernel_rfl)) (js (jf F46_0 ζ) (js (jl k1 O3 ζ ζ) (js (jsub ζ ζ (by omega)) (js (jci (l := [2, 5, 8, 9, 10]) U134 Z3 O3 ζ ζ ⟨by omega, by omega, ζ⟩) (ja ζ (jn (jx (jq (jr ?_)))))))))))
  refine jm ζ (jm ζ (js (jf F46_6 ζ) (js (jl k1 O21 ζ ζ) (jwr (rMach.W_Imm d0) fun w8 => jcv E77 ζ ζ (rDo_ct (ix [2, 5, 8, 9, 10] (Int.toNat (i.Op - 18))) (getM regs i.A) i.Imm w3 w8) dn kn (jm ζ (js (jex' ζ ζ) (js (jex' ζ ζ) (ja ζ (ja ζ (jn ?_))))))))))
  refine jx (jr (jm ζ (js (jf F46_1 ζ) (js (jl k1 O3 ζ ζ) (jm ζ (jwr (wdo (wp w3)) fun w9 => jc E76 ζ ζ (rSet_ct i.D ((doM (ix [2, 5, 8, 9, 10] (Int.toNat (i.Op - 18))) (getM regs i.A) i.Imm).1) (by first | omega | (simp only [setM_len, storeM_len]; omega)) w9) dn (kc k0 kn) (fun _ => p0) (fun _ => p1) fun _ => jn (jbn (jx (jq ?_)))))))))
  refine jr (ja ζ (ja ζ (jn (jx (jrt ?_)))))
  have hm : stepM i regs mem = ((0, true), setM regs i.D ((doM (ix [2, 5, 8, 9, 10] (Int.toNat (i.Op - 18))) (getM regs i.A) i.Imm).1), mem) := (by unfold stepM; (repeat rw [if_neg (by omega)]) <;> (try rw [if_pos (by omega)]) <;> first | rfl | (simp [*]; done) | (simp [immOp, *]; done))
  exact jr2 ζ ζ ζ () (by rw [hm]) dn (fun _ _ => (kcg (by rw [hm]) k0 (kcg (by rw [hm]) k1 kn)))
  refine jq (jr (js (jf F46_0 ζ) (js (jl k1 O3 ζ ζ) (js (jeql ζ ζ) (ja ζ (jn (jx ?_)))))))
  refine jif ζ (fun hc7 => ?_) (fun hc7 => ?_)
  refine jr (jm ζ (js (jf F46_1 ζ) (js (jl k1 O3 ζ ζ) (jm ζ (jm ζ (js (jmulw ζ ζ) (jm ζ (js (jaddw ζ ζ) (jc E76 ζ ζ (rSet_ct i.D (IntKind.i32.wrap ((IntKind.i32.wrap ((getM regs i.A) * (getM regs i.B))) + (getM regs i.C))) (by first | omega | (simp only [setM_len, storeM_len]; omega)) (wrap_wrap _ _)) dn (kc k0 kn) (fun _ => p0) (fun _ => p1) fun _ => jn (jbn ?_))))))))))
  refine jx (jq (jr (ja ζ (ja ζ (jn (jx (jrt ?_)))))))
  have hm : stepM i regs mem = ((0, true), setM regs i.D (IntKind.i32.wrap ((IntKind.i32.wrap ((getM regs i.A) * (getM regs i.B))) + (getM regs i.C))), mem) := (by unfold stepM; (repeat rw [if_neg (by omega)]) <;> (try rw [if_pos (by omega)]) <;> first | rfl | (simp [*]; done) | (simp [immOp, *]; done))
  exact jr2 ζ ζ ζ () (by rw [hm]) dn (fun _ _ => (kcg (by rw [hm]) k0 (kcg (by rw [hm]) k1 kn)))
  refine jq (jr (js (jf F46_0 ζ) (js (jl k1 O3 ζ ζ) (js (jeql ζ ζ) (jm ζ (jg ζ ζ (.f _) (fun hg => jf F46_0 ζ) (jg ζ ζ (.f _) (fun hg => jl k1 O3 (evg ζ hg) ζ) (jg ζ ζ (.f _) (fun hg => jeql (evg ζ hg) ζ) (js (jor ζ ζ) (ja ζ (jn ?_)))))))))))
  refine jx ?_
  refine jif ζ (fun hc8 => ?_) (fun hc8 => ?_)
  refine jq (jr (jm ζ (js (jf F46_6 ζ) (js (jl k1 O21 ζ ζ) (js (jaddw ζ ζ) (ja ζ (jn (jx (jq (jq (jr ?_)))))))))))
  refine js (jf F46_0 ζ) (js (jl k1 O3 ζ ζ) (js (jeql ζ ζ) (jn (jx ?_))))
  refine jif ζ (fun hc9 => ?_) (fun hc9 => ?_)
  refine jr (jm ζ (jm ζ (js (jaddw ζ ζ) (ja ζ (jn (jx (jq (jr (jm ζ (jm ζ (jc E78 ζ ζ (Tv.temp 1073741824 (rLoad_ct (IntKind.i32.wrap ((getM regs i.A) + (getM regs i.B))) (wrap_wrap _ _)) (by omega)) dn (kc k2 kn) (fun _ => p0) (fun _ => p1) fun _ => ?_)))))))))))
  refine jm ζ (js (jex' ζ ζ) (js (jex' ζ ζ) (ja ζ (ja ζ (jn (jx (jq (jq (jr (jm ζ (js (jnot ζ) ?_)))))))))))
  refine jn (jx ?_)
  refine jif ζ (fun hc10 => ?_) (fun hc10 => ?_)
  refine jq (jr (ja ζ (ja ζ (jn (jx (jrt (jtr (jbr (jtr ?_)))))))))
  have hm : stepM i regs mem = (((-2), false), regs, mem) := (by unfold stepM; (repeat rw [if_neg (by omega)]) <;> (try rw [if_pos (by omega)]) <;> first | rfl | (simp [*]; done) | (simp [immOp, *]; done))
  exact jr2 ζ ζ ζ () (by rw [hm]) dn (fun _ _ => (kcg (by rw [hm]) k1 (kcg (by rw [hm]) k0 kn)))
  refine jsk (jx (jr (jm ζ (js (jf F46_1 ζ) (js (jl k2 O3 ζ ζ) (jm ζ (jwr (wld k0 (IntKind.i32.wrap ((getM regs i.A) + (getM regs i.B)))) fun w10 => jc E76 ζ ζ (rSet_ct i.D ((loadM mem (IntKind.i32.wrap ((getM regs i.A) + (getM regs i.B)))).1) (by first | omega | (simp only [setM_len, storeM_len]; omega)) w10) dn (kc k1 kn) (fun _ => p0) (fun _ => p1) fun _ => jn (jbn (jx ?_)))))))))
  refine jq (jr (ja ζ (ja ζ (jn (jx (jrt ?_))))))
  have hm : stepM i regs mem = ((0, true), setM regs i.D ((loadM mem (IntKind.i32.wrap ((getM regs i.A) + (getM regs i.B)))).1), mem) := (by unfold stepM; (repeat rw [if_neg (by omega)]) <;> (try rw [if_pos (by omega)]) <;> first | rfl | (simp [*]; done) | (simp [immOp, *]; done))
  exact jr2 ζ ζ ζ () (by rw [hm]) dn (fun _ _ => (kcg (by rw [hm]) k0 (kcg (by rw [hm]) k0 kn)))
  refine jsk (jx (jq (jr (jm ζ (jm ζ (jc E78 ζ ζ (Tv.temp 1073741824 (rLoad_ct (IntKind.i32.wrap ((getM regs i.A) + i.Imm)) (wrap_wrap _ _)) (by omega)) dn (kc k2 kn) (fun _ => p0) (fun _ => p1) fun _ => jm ζ (js (jex' ζ ζ) (js (jex' ζ ζ) (ja ζ (ja ζ ?_))))))))))
  refine jn (jx (jq (jq (jr (jm ζ (js (jnot ζ) (jn (jx ?_))))))))
  refine jif ζ (fun hc11 => ?_) (fun hc11 => ?_)
  refine jq (jr (ja ζ (ja ζ (jn (jx (jrt (jtr (jbr (jtr ?_)))))))))
  have hm : stepM i regs mem = (((-2), false), regs, mem) := (by unfold stepM; (repeat rw [if_neg (by omega)]) <;> (try rw [if_pos (by omega)]) <;> first | rfl | (simp [*]; done) | (simp [immOp, *]; done))
  exact jr2 ζ ζ ζ () (by rw [hm]) dn (fun _ _ => (kcg (by rw [hm]) k1 (kcg (by rw [hm]) k0 kn)))
  refine jsk (jx (jr (jm ζ (js (jf F46_1 ζ) (js (jl k2 O3 ζ ζ) (jm ζ (jwr (wld k0 (IntKind.i32.wrap ((getM regs i.A) + i.Imm))) fun w11 => jc E76 ζ ζ (rSet_ct i.D ((loadM mem (IntKind.i32.wrap ((getM regs i.A) + i.Imm))).1) (by first | omega | (simp only [setM_len, storeM_len]; omega)) w11) dn (kc k1 kn) (fun _ => p0) (fun _ => p1) fun _ => jn (jbn (jx ?_)))))))))
  refine jq (jr (ja ζ (ja ζ (jn (jx (jrt ?_))))))
  have hm : stepM i regs mem = ((0, true), setM regs i.D ((loadM mem (IntKind.i32.wrap ((getM regs i.A) + i.Imm))).1), mem) := (by unfold stepM; (repeat rw [if_neg (by omega)]) <;> (try rw [if_pos (by omega)]) <;> first | rfl | (simp [*]; done) | (simp [immOp, *]; done))
  exact jr2 ζ ζ ζ () (by rw [hm]) dn (fun _ _ => (kcg (by rw [hm]) k0 (kcg (by rw [hm]) k0 kn)))
  refine jq (jr (js (jf F46_0 ζ) (js (jl k1 O3 ζ ζ) (js (jeql ζ ζ) (jm ζ (jg ζ ζ (.f _) (fun hg => jf F46_0 ζ) (jg ζ ζ (.f _) (fun hg => jl k1 O3 (evg ζ hg) ζ) (jg ζ ζ (.f _) (fun hg => jeql (evg ζ hg) ζ) (js (jor ζ ζ) (ja ζ (jn ?_)))))))))))
  refine jx ?_
  refine jif ζ (fun hc12 => ?_) (fun hc12 => ?_)
  refine jq (jr (jm ζ (js (jf F46_6 ζ) (js (jl k1 O21 ζ ζ) (js (jaddw ζ ζ) (ja ζ (jn (jx (jq (jr (jm ζ ?_)))))))))))
  refine ja ζ (jn (jx (jq (jq (jr (js (jf F46_0 ζ) (js (jl k1 O3 ζ ζ) (js (jeql ζ ζ) (jn (jx ?_))))))))))
  refine jif ζ (fun hc13 => ?_) (fun hc13 => ?_)
  refine jq (jr (jm ζ (jm ζ (js (jaddw ζ ζ) (ja ζ (jn (jx (jr (jm ζ (ja ζ (jn ?_)))))))))))
  refine jx (jq (jr (jm ζ (jm ζ (jm ζ (jwr (wgt k0 i.C) fun w12 => jc E79 ζ ζ (rStore_ct (IntKind.i32.wrap ((getM regs i.A) + (getM regs i.B))) (getM regs i.C) (by first | omega | (simp only [setM_len, storeM_len]; omega)) (wrap_wrap _ _) w12) dn (kc k2 kn) (fun _ => p0) (fun _ => p1) fun _ => ja ζ (jn (jx (jq ?_)))))))))
  refine jr (jm ζ (js (jnot ζ) (jn (jx ?_))))
  refine jif ζ (fun hc14 => ?_) (fun hc14 => ?_)
  refine jq (jr (ja ζ (ja ζ (jn (jx (jrt (jbr (jtr ?_))))))))
  have hm : stepM i regs mem = (((-2), false), regs, storeM mem (IntKind.i32.wrap ((getM regs i.A) + (getM regs i.B))) (getM regs i.C)) := (by unfold stepM; (repeat rw [if_neg (by omega)]) <;> (try rw [if_pos (by omega)]) <;> first | rfl | (simp [*]; done) | (simp [immOp, *]; done))
  exact jr2 ζ ζ ζ () (by rw [hm]) dn (fun _ _ => (kcg (by rw [hm]) k1 (kcg (by rw [hm]) k0 kn)))
  refine jsk (jbn (jx (jq (jr (ja ζ (ja ζ (jn (jx (jrt ?_)))))))))
  have hm : stepM i regs mem = ((0, true), regs, storeM mem (IntKind.i32.wrap ((getM regs i.A) + (getM regs i.B))) (getM regs i.C)) := (by unfold stepM; (repeat rw [if_neg (by omega)]) <;> (try rw [if_pos (by omega)]) <;> first | rfl | (simp [*]; done) | (simp [immOp, *]; done))
  exact jr2 ζ ζ ζ () (by rw [hm]) dn (fun _ _ => (kcg (by rw [hm]) k1 (kcg (by rw [hm]) k0 kn)))
  refine jsk (jx (jq (jr (jm ζ (jm ζ (jm ζ (jwr (wgt k0 i.B) fun w13 => jc E79 ζ ζ (rStore_ct (IntKind.i32.wrap ((getM regs i.A) + i.Imm)) (getM regs i.B) (by first | omega | (simp only [setM_len, storeM_len]; omega)) (wrap_wrap _ _) w13) dn (kc k2 kn) (fun _ => p0) (fun _ => p1) fun _ => ja ζ (jn (jx ?_)))))))))
  refine jq (jr (jm ζ (js (jnot ζ) (jn (jx ?_)))))
  refine jif ζ (fun hc15 => ?_) (fun hc15 => ?_)
  refine jq (jr (ja ζ (ja ζ (jn (jx (jrt (jbr (jtr ?_))))))))
  have hm : stepM i regs mem = (((-2), false), regs, storeM mem (IntKind.i32.wrap ((getM regs i.A) + i.Imm)) (getM regs i.B)) := (by unfold stepM; (repeat rw [if_neg (by omega)]) <;> (try rw [if_pos (by omega)]) <;> first | rfl | (simp [*]; done) | (simp [immOp, *]; done))
  exact jr2 ζ ζ ζ () (by rw [hm]) dn (fun _ _ => (kcg (by rw [hm]) k1 (kcg (by rw [hm]) k0 kn)))
  refine jsk (jbn (jx (jq (jr (ja ζ (ja ζ (jn (jx (jrt ?_)))))))))
  have hm : stepM i regs mem = ((0, true), regs, storeM mem (IntKind.i32.wrap ((getM regs i.A) + i.Imm)) (getM regs i.B)) := (by unfold stepM; (repeat rw [if_neg (by omega)]) <;> (try rw [if_pos (by omega)]) <;> first | rfl | (simp [*]; done) | (simp [immOp, *]; done))
  exact jr2 ζ ζ ζ () (by rw [hm]) dn (fun _ _ => (kcg (by rw [hm]) k1 (kcg (by rw [hm]) k0 kn)))
  refine jq (jr (js (jf F46_0 ζ) (js (jl k1 O3 ζ ζ) (js (jeql ζ ζ) (ja ζ (jn (jx ?_)))))))
  refine jif ζ (fun hc16 => ?_) (fun hc16 => ?_)
  refine jq (jr (jm ζ (jm ζ (jwr (wgt k0 i.B) fun w14 => jcv E80 ζ ζ (rWide_ct (getM regs i.A) (getM regs i.B) w3 w14) dn kn (jm ζ (js (jex' ζ ζ) (js (jex' ζ ζ) (ja ζ (ja ζ (jn ?_))))))))))
  refine jx (jq (jr (jm ζ (js (jf F46_1 ζ) (js (jl k1 O3 ζ ζ) (jm ζ (jc E76 ζ ζ (rSet_ct i.D ((wideM (getM regs i.A) (getM regs i.B)).1) (by first | omega | (simp only [setM_len, storeM_len]; omega)) (wrap_wrap _ _)) dn (kc k0 kn) (fun _ => p0) (fun _ => p1) fun _ => jn (jx (jr (jm ζ ?_))))))))))
  refine js (jf F46_2 ζ) (js (jl k1 O3 ζ ζ) (jm ζ (jc E76 ζ ζ (rSet_ct i.E ((wideM (getM regs i.A) (getM regs i.B)).2) (by first | omega | (simp only [setM_len, storeM_len]; omega)) (wrap_wrap _ _)) dn (kc k0 kn) (fun _ => p0) (fun _ => p1) fun _ => jn (jbn (jx (jq (jr (ja ζ (ja ζ (jn ?_))))))))))
  refine jx (jrt ?_)
  have hm : stepM i regs mem = ((0, true), setM (setM regs i.D ((wideM (getM regs i.A) (getM regs i.B)).1)) i.E ((wideM (getM regs i.A) (getM regs i.B)).2), mem) := (by unfold stepM; (repeat rw [if_neg (by omega)]) <;> (try rw [if_pos (by omega)]) <;> first | rfl | (simp [*]; done) | (simp [immOp, *]; done))
  exact jr2 ζ ζ ζ () (by rw [hm]) dn (fun _ _ => (kcg (by rw [hm]) k0 (kcg (by rw [hm]) k1 kn)))
  refine jsk (jbn (jx (jq (jr (ja ζ (ja ζ (jn (jx (jrt ?_)))))))))
  have hm : stepM i regs mem = ((0, true), regs, mem) := (by unfold stepM; (repeat rw [if_neg (by omega)]) <;> (try rw [if_pos (by omega)]) <;> first | rfl | (simp [*]; done) | (simp [immOp, *]; done))
  exact jr2 ζ ζ ζ () (by rw [hm]) dn (fun _ _ => (kcg (by rw [hm]) k0 (kcg (by rw [hm]) k1 kn)))
def DoJ (i : D.Mach) (regs mem : List Int) (v t : Int) (ok : Bool) (me : List Int) : Prop := (ok = true → stepM i regs mem = ((0, true), setAllM regs (makesM i) v, me)) ∧ (ok = false → stepM i regs mem = ((if t = 0 then -2 else t, false), regs, me))
theorem doJ1 {i : D.Mach} {regs mem me : List Int} {v t : Int} {ok : Bool} (e : makesM i = [i.D]) (h1 : ok = true → stepM i regs mem = ((0, true), setM regs i.D v, me)) (h2 : ok = false → stepM i regs mem = ((if t = 0 then -2 else t, false), regs, me)) : DoJ i regs mem v t ok me := ⟨fun h => by rw [h1 h, e]; rfl, h2⟩
theorem doJ0 {i : D.Mach} {regs mem me : List Int} {v t : Int} {ok : Bool} (e : makesM i = []) (h1 : ok = true → stepM i regs mem = ((0, true), regs, me)) (h2 : ok = false → stepM i regs mem = ((if t = 0 then -2 else t, false), regs, me)) : DoJ i regs mem v t ok me := ⟨fun h => by rw [h1 h, e]; rfl, h2⟩
theorem doJ_end {i : D.Mach} {regs mem me rs : List Int} {v t : Int} {k : Nat} (h : DoJ i regs mem v t true me) (hR : setAllM regs (makesM i) v = setAllM rs ((makesM i).drop k) v) (hk : (makesM i).length ≤ k) : stepM i regs mem = ((0, true), rs, me) := by
  rw [h.1 rfl, hR, List.drop_of_length_le hk]; rfl
set_option maxHeartbeats 4000000 in
theorem pDoM_ct {a0 : Value} {i : D.Mach} {a1 : Value} {regs : List Int} {B1 : Nat} {a2 : Value} {mem : List Int} {B2 : Nat} (hl : regs.length < 1073741824) (hl2 : mem.length < 1073741824) : Tr Tryz.prog 33 #[vMach i a0, a1, a2] [da rMach (vMach i a0) i] [gl B1 (rI .i32) 21 a1 regs, gl B2 (rI .i32) 21 a2 mem] (fun _ : Unit => .tuple #[.int .i32 ((stepM i regs mem).1.1), .bool ((stepM i regs mem).1.2)]) (fun _ => []) (fun _ _ => [gl B1 (rI .i32) 21 a1 ((stepM i regs mem).2.1), gl B2 (rI .i32) 21 a2 ((stepM i regs mem).2.2)]) := by
  refine jenter (args := [vMach i a0, a1, a2]) Tryz.func33 rfl rfl rfl fun w0 X => ?_
  refine cgo k0 fun w1 => cgo k1 fun w2 => jq (jr (jbox ζ ζ fun g3 => jbox ζ w1.cells fun g4 => ja ζ (ja ζ (jn (jx (jq (jany false (.a 0 (.a 1 (.a 2 (.a 4 (.a 5 (.a 6 (.a 8 (.a 9 (.a 10 (.o 3 (.o 7 (.o 11 (.a 12 (.a 13 (.a 14 .e))))))))))))))) Mixed (by kernel_rfl) (kc k0 (kc k0 kn)) fun F3 => ?_)))))))
  refine jy ζ (jl k0 O34 ζ ζ) (jy ζ (jf F46_3 ζ) (jy ζ (jl k1 O3 ζ ζ) (jy ζ (jl k0 O34 ζ ζ) (jy ζ (jf F46_4 ζ) (jy ζ (jl k1 O3 ζ ζ) (jy ζ (jl k0 O34 ζ ζ) (jy ζ (jf F46_5 ζ) (jy ζ (jl k1 O3 ζ ζ) (jyo ζ (jc E34 ζ ζ (Tv.temp 1073741824 (pGet_ct i.A) (by omega)) dn (kc k2 kn) (fun _ => p0) (fun _ => p1) fun _ => jwr (wgt k0 i.A) fun w5 => ?_))))))))))
  refine jyn d0 (kc k1 (kc k1 kn)) (jyo ζ (jc E34 ζ ζ (Tv.temp 1073741824 (pGet_ct i.B) (by omega)) dn (kc k0 kn) (fun _ => p0) (fun _ => p1) fun _ => jyn d0 (kc k1 (kc k1 kn)) (jyo ζ (jc E34 ζ ζ (Tv.temp 1073741824 (pGet_ct i.C) (by omega)) dn (kc k0 kn) (fun _ => p0) (fun _ => p1) fun _ => jyn d0 (kc k1 (kc k1 kn)) (jy ζ (jas ζ) (jy ζ (jas ζ) (jy ζ (jas ζ) (jyd (jx ?_)))))))))
  refine jq (jr (js (jmf1 ζ) (ja ζ (jn (jx (jq (jr (jm ζ (ja ζ (ja ζ (ja ζ ?_)))))))))))
  refine jn (jx (jq ?_))
  refine jjo (u4 fun (v : Int) (t : Int) (ok : Bool) (me : List Int) => ⟨IntKind.i32.wrap v = v ∧ me.length = mem.length ∧ DoJ i regs mem v t ok me, [da rMach (vMach i a0) i], [gl B1 (rI .i32) 21 a1 regs, bx g4 34 [a1], bx g3 46 [.int .i64 i.Op, .int .i64 i.D, .int .i64 i.E, .int .i64 i.A, .int .i64 i.B, .int .i64 i.C, .int .i32 i.Imm, a0], gl B2 (rI .i32) 21 a2 me], [(3, .pointer (some ⟨g3, 0, none⟩)), (11, .func (.func 70) #[] #[.pointer (some ⟨g4, 0, none⟩)]), (12, .int .i32 v), (13, .int .i32 t), (14, .bool ok)]⟩) ?_ ?_
  refine jb (jq (jr (js (jf F46_0 ζ) (js (jl k2 O3 ζ ζ) (js (jeql ζ ζ) (ja ζ (jn (jx ?_))))))))
  refine jif ζ (fun hc1 => ?_) (fun hc1 => ?_)
  refine jsk (jbn ?_)
  exact jje (getM regs i.A, 0, true, mem) ⟨by dsimp only; exact w5, by first | rfl | exact storeM_len _ _ _, by dsimp only; exact doJ1 (by unfold makesM; repeat rw [if_neg (by omega)]) (fun h9 => by (unfold stepM; (repeat rw [if_neg (by omega)]) <;> (try rw [if_pos (by omega)]) <;> first | rfl | (simp [*]; done) | (simp [immOp, *]; done) | simp_all)) (fun h9 => by (unfold stepM; (repeat rw [if_neg (by omega)]) <;> (try rw [if_pos (by omega)]) <;> first | rfl | (simp [*]; done) | (simp [immOp, *]; done) | simp_all))⟩ (dc d3 dn) (kc k0 (kc k0 (kc k0 (kc k0 kn)))) ⟨ζ, ζ, ζ, ζ, ζ, trivial⟩
  refine jq (jr (js (jf F46_0 ζ) (js (jl k2 O3 ζ ζ) (js (jeql ζ ζ) (ja ζ (jn (jx ?_)))))))
  refine jif ζ (fun hc2 => ?_) (fun hc2 => ?_)
  refine jq (jr (jm ζ (js (jf F46_3 ζ) (js (jl k2 O3 ζ ζ) (jm ζ (jwr (wgt k0 i.B) fun w9 => jc E70 ζ ζ (pSet_ct i.A (getM regs i.B) (by first | omega | (simp only [setM_len, storeM_len]; omega)) w9) dn (kc k0 (kc k0 kn)) (fun _ => p0) (fun _ => p2) fun _ => jn (jx (jq (jr ?_)))))))))
  refine jm ζ (js (jf F46_4 ζ) (js (jl k2 O3 ζ ζ) (jm ζ (jc E70 ζ ζ (pSet_ct i.B (getM regs i.A) (by first | omega | (simp only [setM_len, storeM_len]; omega)) w5) dn (kc k0 (kc k0 kn)) (fun _ => p0) (fun _ => p2) fun _ => jn (jx (jq (jr (ja ζ (ja ζ (jn ?_))))))))))
  refine jx (jrt (jbr (jjr (jtr ?_))))
  have hm : stepM i regs mem = ((0, true), setM (setM regs i.A (getM regs i.B)) i.B (getM regs i.A), mem) := (by unfold stepM; (repeat rw [if_neg (by omega)]) <;> (try rw [if_pos (by omega)]) <;> first | rfl | (simp [*]; done) | (simp [immOp, *]; done) | (exfalso; (try simp at hc1); (try simp at hc2); simp_all; done))
  exact jr2 ζ ζ ζ () (by rw [hm]) dn (fun _ _ => (kcg (by rw [hm]) k0 (kcg (by rw [hm]) k2 kn)))
  refine jq (jr (js (jf F46_0 ζ) (js (jl k2 O3 ζ ζ) (js (jeql ζ ζ) (jm ζ (jg ζ ζ (.f _) (fun hg => jf F46_0 ζ) (jg ζ ζ (.f _) (fun hg => jl k2 O3 (evg ζ hg) ζ) (jg ζ ζ (.f _) (fun hg => jeql (evg ζ hg) ζ) (js (jor ζ ζ) (ja ζ (jn ?_)))))))))))
  refine jx ?_
  refine jif ζ (fun hc3 => ?_) (fun hc3 => ?_)
  refine jr (js (jf F46_6 ζ) (js (jl k2 O21 ζ ζ) (ja ζ (jn (jbn (qwr (rMach.W_Imm d3) fun w10 => ?_))))))
  exact jje (i.Imm, 0, true, mem) ⟨by dsimp only; exact w10, by first | rfl | exact storeM_len _ _ _, by dsimp only; exact doJ1 (by unfold makesM; repeat rw [if_neg (by omega)]) (fun h9 => by (unfold stepM; (repeat rw [if_neg (by omega)]) <;> (try rw [if_pos (by omega)]) <;> first | rfl | (simp [*]; done) | (simp [immOp, *]; done) | simp_all)) (fun h9 => by (unfold stepM; (repeat rw [if_neg (by omega)]) <;> (try rw [if_pos (by omega)]) <;> first | rfl | (simp [*]; done) | (simp [immOp, *]; done) | simp_all))⟩ (dc d3 dn) (kc k0 (kc k0 (kc k0 (kc k0 kn)))) ⟨ζ, ζ, ζ, ζ, ζ, trivial⟩
  refine jq (jr (js (jf F46_0 ζ) (js (jl k2 O3 ζ ζ) (js (jgeq ζ ζ) (jm ζ (jg ζ ζ (.t _) (fun hg => jf F46_0 ζ) (jg ζ ζ (.t _) (fun hg => jl k2 O3 (evg ζ hg) ζ) (jg ζ ζ (.t _) (fun hg => jleq (evg ζ hg) ζ) (js (jand ζ ζ) (ja ζ (jn ?_)))))))))))
  refine jx ?_
  refine jif ζ (fun hc4 => ?_) (fun hc4 => ?_)
  refine jq (jr (js (jf F46_0 ζ) (js (jl k2 O3 ζ ζ) (js (jsub ζ ζ (by omega)) (js (jadd ζ ζ (by omega)) (jm ζ (jm ζ (jcv E71 ζ ζ (wDo_ct ((i.Op - 5) + 2) (getM regs i.A) (getM regs i.B)) dn kn (jm ζ (js (jex' ζ ζ) (js (jex' ζ ζ) ?_)))))))))))
  refine ja ζ (ja ζ (jn (jx (jr (ja ζ (jn (jbn (qwr (m := ((doM ((i.Op - 5) + 2) (getM regs i.A) (getM regs i.B)).1)) (wdo (wp w5)) fun w11 => ?_))))))))
  exact jje ((doM ((i.Op - 5) + 2) (getM regs i.A) (getM regs i.B)).1, (-1), (doM ((i.Op - 5) + 2) (getM regs i.A) (getM regs i.B)).2, mem) ⟨by dsimp only; exact w11, by first | rfl | exact storeM_len _ _ _, by dsimp only; exact doJ1 (by unfold makesM; repeat rw [if_neg (by omega)]) (fun h9 => by (unfold stepM; (repeat rw [if_neg (by omega)]) <;> (try rw [if_pos (by omega)]) <;> first | rfl | (simp [*]; done) | (simp [immOp, *]; done) | simp_all)) (fun h9 => by (unfold stepM; (repeat rw [if_neg (by omega)]) <;> (try rw [if_pos (by omega)]) <;> first | rfl | (simp [*]; done) | (simp [immOp, *]; done) | simp_all))⟩ (dc d3 dn) (kc k0 (kc k0 (kc k0 (kc k0 kn)))) ⟨ζ, ζ, ζ, ζ, ζ, trivial⟩
  refine jq (jr (js (jf F46_0 ζ) (js (jl k2 O3 ζ ζ) (js (jgeq ζ ζ) (jm ζ (jg ζ ζ (.t _) (fun hg => jf F46_0 ζ) (jg ζ ζ (.t _) (fun hg => jl k2 O3 (evg ζ hg) ζ) (jg ζ ζ (.t _) (fun hg => jleq (evg ζ hg) ζ) (js (jand ζ ζ) (ja ζ (jn ?_)))))))))))
  refine jx ?_
  refine jif ζ (fun hc5 => ?_) (fun hc5 => ?_)
  refine jany false (.a 0 (.a 1 (.a 2 (.a 3 (.a 4 (.a 5 (.a 6 (.a 7 (.o 8 (.a 9 (.a 10 (.a 11 (.a 12 .e))))))))))))) Mixed (by kernel_rfl) (kc k2 kn) fun F12 => jy ζ (jbu (v := .agg #[.int .i64 2, .int .i64 5, .int .i64 8, .int .i64 9, .int .i64 10]) ζ (fun _ => by kernel_rfl)) (jy ζ (jf F46_0 ζ) (jy ζ (jl k0 O3 ζ ζ) (jy ζ (jsub ζ ζ (by omega)) (jy ζ (jci (l := [2, 5, 8, 9, 10]) U134 Z3 O3 ζ ζ ⟨by omega, by omega, ζ⟩) (jy ζ (jmv ζ) (jy ζ (jf F46_6 ζ) (jy ζ (jl k0 O21 ζ ζ) (jyo ζ (jcv E71 ζ ζ (wDo_ct (ix [2, 5, 8, 9, 10] (Int.toNat (i.Op - 18))) (getM regs i.A) i.Imm) dn kn (jyn d0 (kc k2 kn) ?_))))))))))
  refine jy ζ (jmv ζ) (jy ζ (jex' ζ ζ) (jy ζ (jex' ζ ζ) (jy ζ (jas ζ) (jyd (jbn (qwr (m := ((doM (ix [2, 5, 8, 9, 10] (Int.toNat (i.Op - 18))) (getM regs i.A) i.Imm).1)) (wdo (wp w5)) fun w14 => ?_))))))
  exact jje ((doM (ix [2, 5, 8, 9, 10] (Int.toNat (i.Op - 18))) (getM regs i.A) i.Imm).1, 0, true, mem) ⟨by dsimp only; exact w14, by first | rfl | exact storeM_len _ _ _, by dsimp only; exact doJ1 (by unfold makesM; repeat rw [if_neg (by omega)]) (fun h9 => by (unfold stepM; (repeat rw [if_neg (by omega)]) <;> (try rw [if_pos (by omega)]) <;> first | rfl | (simp [*]; done) | (simp [immOp, *]; done) | simp_all)) (fun h9 => by (unfold stepM; (repeat rw [if_neg (by omega)]) <;> (try rw [if_pos (by omega)]) <;> first | rfl | (simp [*]; done) | (simp [immOp, *]; done) | simp_all))⟩ (dc d4 dn) (kc k0 (kc k0 (kc k0 (kc k0 kn)))) ⟨ζ, ζ, ζ, ζ, ζ, trivial⟩
  refine jq (jr (js (jf F46_0 ζ) (js (jl k2 O3 ζ ζ) (js (jeql ζ ζ) (ja ζ (jn (jx ?_)))))))
  refine jif ζ (fun hc6 => ?_) (fun hc6 => ?_)
  refine jr (jm ζ (jm ζ (js (jmulw ζ ζ) (jm ζ (js (jaddw ζ ζ) (ja ζ (jn (jbn ?_))))))))
  exact jje (IntKind.i32.wrap ((IntKind.i32.wrap ((getM regs i.A) * (getM regs i.B))) + (getM regs i.C)), 0, true, mem) ⟨by dsimp only; exact (wrap_wrap _ _), by first | rfl | exact storeM_len _ _ _, by dsimp only; exact doJ1 (by unfold makesM; repeat rw [if_neg (by omega)]) (fun h9 => by (unfold stepM; (repeat rw [if_neg (by omega)]) <;> (try rw [if_pos (by omega)]) <;> first | rfl | (simp [*]; done) | (simp [immOp, *]; done) | simp_all)) (fun h9 => by (unfold stepM; (repeat rw [if_neg (by omega)]) <;> (try rw [if_pos (by omega)]) <;> first | rfl | (simp [*]; done) | (simp [immOp, *]; done) | simp_all))⟩ (dc d3 dn) (kc k0 (kc k0 (kc k0 (kc k0 kn)))) ⟨ζ, ζ, ζ, ζ, ζ, trivial⟩
  refine jq (jr (js (jf F46_0 ζ) (js (jl k2 O3 ζ ζ) (js (jeql ζ ζ) (ja ζ (jn (jx ?_)))))))
  refine jif ζ (fun hc7 => ?_) (fun hc7 => ?_)
  refine jr (jm ζ (jm ζ (js (jf F46_6 ζ) (js (jl k2 O21 ζ ζ) (js (jaddw ζ ζ) (jc E72 ζ ζ (Tv.temp 1073741824 (pLoad_ct (IntKind.i32.wrap ((getM regs i.A) + i.Imm)) (wrap_wrap _ _)) (by omega)) dn (kc k3 kn) (fun _ => p0) (fun _ => p1) fun _ => jm ζ (js (jex' ζ ζ) (js (jex' ζ ζ) (ja ζ (ja ζ ?_))))))))))
  refine jn (jbn (qwr (m := ((loadM mem (IntKind.i32.wrap ((getM regs i.A) + i.Imm))).1)) (wld k0 (IntKind.i32.wrap ((getM regs i.A) + i.Imm))) fun w15 => ?_))
  exact jje ((loadM mem (IntKind.i32.wrap ((getM regs i.A) + i.Imm))).1, 0, (loadM mem (IntKind.i32.wrap ((getM regs i.A) + i.Imm))).2, mem) ⟨by dsimp only; exact w15, by first | rfl | exact storeM_len _ _ _, by dsimp only; exact doJ1 (by unfold makesM; repeat rw [if_neg (by omega)]) (fun h9 => by (unfold stepM; (repeat rw [if_neg (by omega)]) <;> (try rw [if_pos (by omega)]) <;> first | rfl | (simp [*]; done) | (simp [immOp, *]; done) | simp_all)) (fun h9 => by (unfold stepM; (repeat rw [if_neg (by omega)]) <;> (try rw [if_pos (by omega)]) <;> first | rfl | (simp [*]; done) | (simp [immOp, *]; done) | simp_all))⟩ (dc d3 dn) (kc k1 (kc k1 (kc k1 (kc k0 kn)))) ⟨ζ, ζ, ζ, ζ, ζ, trivial⟩
  refine jq (jr (js (jf F46_0 ζ) (js (jl k2 O3 ζ ζ) (js (jeql ζ ζ) (ja ζ (jn (jx ?_)))))))
  refine jif ζ (fun hc8 => ?_) (fun hc8 => ?_)
  refine jr (jm ζ (jm ζ (jm ζ (js (jaddw ζ ζ) (jc E72 ζ ζ (Tv.temp 1073741824 (pLoad_ct (IntKind.i32.wrap ((getM regs i.A) + (getM regs i.B))) (wrap_wrap _ _)) (by omega)) dn (kc k3 kn) (fun _ => p0) (fun _ => p1) fun _ => jm ζ (js (jex' ζ ζ) (js (jex' ζ ζ) (ja ζ (ja ζ (jn ?_))))))))))
  refine jbn (qwr (m := ((loadM mem (IntKind.i32.wrap ((getM regs i.A) + (getM regs i.B)))).1)) (wld k0 (IntKind.i32.wrap ((getM regs i.A) + (getM regs i.B)))) fun w16 => ?_)
  exact jje ((loadM mem (IntKind.i32.wrap ((getM regs i.A) + (getM regs i.B)))).1, 0, (loadM mem (IntKind.i32.wrap ((getM regs i.A) + (getM regs i.B)))).2, mem) ⟨by dsimp only; exact w16, by first | rfl | exact storeM_len _ _ _, by dsimp only; exact doJ1 (by unfold makesM; repeat rw [if_neg (by omega)]) (fun h9 => by (unfold stepM; (repeat rw [if_neg (by omega)]) <;> (try rw [if_pos (by omega)]) <;> first | rfl | (simp [*]; done) | (simp [immOp, *]; done) | simp_all)) (fun h9 => by (unfold stepM; (repeat rw [if_neg (by omega)]) <;> (try rw [if_pos (by omega)]) <;> first | rfl | (simp [*]; done) | (simp [immOp, *]; done) | simp_all))⟩ (dc d3 dn) (kc k1 (kc k1 (kc k1 (kc k0 kn)))) ⟨ζ, ζ, ζ, ζ, ζ, trivial⟩
  refine jq (jr (js (jf F46_0 ζ) (js (jl k2 O3 ζ ζ) (js (jeql ζ ζ) (ja ζ (jn (jx ?_)))))))
  refine jif ζ (fun hc9 => ?_) (fun hc9 => ?_)
  refine jr (jm ζ (jm ζ (js (jf F46_6 ζ) (js (jl k2 O21 ζ ζ) (js (jaddw ζ ζ) (jm ζ (jwr (wgt k0 i.B) fun w17 => jc E73 ζ ζ (pStore_ct (IntKind.i32.wrap ((getM regs i.A) + i.Imm)) (getM regs i.B) (by first | omega | (simp only [setM_len, storeM_len]; omega)) (wrap_wrap _ _) w17) dn (kc k3 kn) (fun _ => p0) (fun _ => p1) fun _ => ja ζ (jn (jbn ?_)))))))))
  exact jje (getM regs i.A, 0, storeOk mem (IntKind.i32.wrap ((getM regs i.A) + i.Imm)) (getM regs i.B), storeM mem (IntKind.i32.wrap ((getM regs i.A) + i.Imm)) (getM regs i.B)) ⟨by dsimp only; exact w5, by first | rfl | exact storeM_len _ _ _, by dsimp only; exact doJ0 (by unfold makesM; (repeat rw [if_neg (by omega)]) <;> (try rw [if_pos (by omega)])) (fun h9 => by (unfold stepM; (repeat rw [if_neg (by omega)]) <;> (try rw [if_pos (by omega)]) <;> first | rfl | (simp [*]; done) | (simp [immOp, *]; done) | simp_all)) (fun h9 => by (unfold stepM; (repeat rw [if_neg (by omega)]) <;> (try rw [if_pos (by omega)]) <;> first | rfl | (simp [*]; done) | (simp [immOp, *]; done) | simp_all))⟩ (dc d3 dn) (kc k1 (kc k1 (kc k1 (kc k0 kn)))) ⟨ζ, ζ, ζ, ζ, ζ, trivial⟩
  refine jq (jr (js (jf F46_0 ζ) (js (jl k2 O3 ζ ζ) (js (jeql ζ ζ) (ja ζ (jn (jx ?_)))))))
  refine jif ζ (fun hc10 => ?_) (fun hc10 => ?_)
  refine jr (jm ζ (jm ζ (jm ζ (js (jaddw ζ ζ) (jm ζ (jwr (wgt k0 i.C) fun w18 => jc E73 ζ ζ (pStore_ct (IntKind.i32.wrap ((getM regs i.A) + (getM regs i.B))) (getM regs i.C) (by first | omega | (simp only [setM_len, storeM_len]; omega)) (wrap_wrap _ _) w18) dn (kc k3 kn) (fun _ => p0) (fun _ => p1) fun _ => ja ζ (jn (jbn ?_))))))))
  exact jje (getM regs i.A, 0, storeOk mem (IntKind.i32.wrap ((getM regs i.A) + (getM regs i.B))) (getM regs i.C), storeM mem (IntKind.i32.wrap ((getM regs i.A) + (getM regs i.B))) (getM regs i.C)) ⟨by dsimp only; exact w5, by first | rfl | exact storeM_len _ _ _, by dsimp only; exact doJ0 (by unfold makesM; (repeat rw [if_neg (by omega)]) <;> (try rw [if_pos (by omega)])) (fun h9 => by (unfold stepM; (repeat rw [if_neg (by omega)]) <;> (try rw [if_pos (by omega)]) <;> first | rfl | (simp [*]; done) | (simp [immOp, *]; done) | simp_all)) (fun h9 => by (unfold stepM; (repeat rw [if_neg (by omega)]) <;> (try rw [if_pos (by omega)]) <;> first | rfl | (simp [*]; done) | (simp [immOp, *]; done) | simp_all))⟩ (dc d3 dn) (kc k1 (kc k1 (kc k1 (kc k0 kn)))) ⟨ζ, ζ, ζ, ζ, ζ, trivial⟩
  refine jq (jr (js (jf F46_0 ζ) (js (jl k2 O3 ζ ζ) (js (jeql ζ ζ) (ja ζ (jn (jx ?_)))))))
  refine jif ζ (fun hc11 => ?_) (fun hc11 => ?_)
  refine jq (jr (jm ζ (jm ζ (jwr (wgt k0 i.B) fun w19 => jcv E74 ζ ζ (wWide_ct (getM regs i.A) (getM regs i.B) w5 w19) dn kn (jm ζ (js (jex' ζ ζ) (js (jex' ζ ζ) (ja ζ (ja ζ (jn ?_))))))))))
  refine jx (jq (jr (jm ζ (js (jf F46_1 ζ) (js (jl k2 O3 ζ ζ) (jm ζ (jc E70 ζ ζ (pSet_ct i.D ((wideM (getM regs i.A) (getM regs i.B)).1) (by first | omega | (simp only [setM_len, storeM_len]; omega)) (wrap_wrap _ _)) dn (kc k0 (kc k0 kn)) (fun _ => p0) (fun _ => p2) fun _ => jn (jx (jq (jr ?_))))))))))
  refine jm ζ (js (jf F46_2 ζ) (js (jl k2 O3 ζ ζ) (jm ζ (jc E70 ζ ζ (pSet_ct i.E ((wideM (getM regs i.A) (getM regs i.B)).2) (by first | omega | (simp only [setM_len, storeM_len]; omega)) (wrap_wrap _ _)) dn (kc k0 (kc k0 kn)) (fun _ => p0) (fun _ => p2) fun _ => jn (jx (jq (jr (ja ζ (ja ζ (jn ?_))))))))))
  refine jx (jrt (jbr (jjr (jtr ?_))))
  have hm : stepM i regs mem = ((0, true), setM (setM regs i.D ((wideM (getM regs i.A) (getM regs i.B)).1)) i.E ((wideM (getM regs i.A) (getM regs i.B)).2), mem) := (by unfold stepM; (repeat rw [if_neg (by omega)]) <;> (try rw [if_pos (by omega)]) <;> first | rfl | (simp [*]; done) | (simp [immOp, *]; done) | (exfalso; (try simp at hc9); (try simp at hc10); (try simp at hc11); simp_all; done))
  exact jr2 ζ ζ ζ () (by rw [hm]) dn (fun _ _ => (kcg (by rw [hm]) k0 (kcg (by rw [hm]) k2 kn)))
  refine jq (jr (ja ζ (ja ζ (jn (jx (jrt (jbr (jjr (jtr ?_)))))))))
  have hm : stepM i regs mem = ((0, true), regs, mem) := (by unfold stepM; (repeat rw [if_neg (by omega)]) <;> (try rw [if_pos (by omega)]) <;> first | rfl | (simp [*]; done) | (simp [immOp, *]; done) | (exfalso; (try simp at hc9); (try simp at hc10); (try simp at hc11); simp_all; done))
  exact jr2 ζ ζ ζ () (by rw [hm]) dn (fun _ _ => (kcg (by rw [hm]) k0 (kcg (by rw [hm]) k2 kn)))
  rintro ⟨v, t, ok, me⟩; dsimp only [u4]; rintro ⟨hvw, hme, hJ⟩
  refine jx (jq (jq (jr (jm ζ (js (jnot ζ) (jm ζ (jg ζ ζ (.t _) (fun hg => jmv ζ) (jg ζ ζ (.t _) (fun hg => jeql (evg ζ hg) ζ) (js (jand ζ ζ) (jn (jx ?_)))))))))))
  refine jif ζ (fun hc12 => ?_) (fun hc12 => ?_)
  refine jr (ja ζ (jn (jx (jq (jq (jr (jm ζ (js (jnot ζ) (jn (jx ?_))))))))))
  refine jif ζ (fun hc13 => ?_) (fun hc13 => ?_)
  refine jq (jr (jm ζ (ja ζ (ja ζ (jn (jx (jrt (jtr ?_))))))))
  have hm : stepM i regs mem = (((-2), false), regs, me) := (by rw [hJ.2 (by simp_all)]; simp_all)
  exact jr2 ζ ζ ζ () (by rw [hm]) dn (fun _ _ => (kcg (by rw [hm]) k0 (kcg (by rw [hm]) k2 kn)))
  exact absurd hc13 (by simp [hc12])
  refine jsk (jx (jq (jq (jr (jm ζ (js (jnot ζ) (jn (jx ?_))))))))
  refine jif ζ (fun hc14 => ?_) (fun hc14 => ?_)
  refine jq (jr (jm ζ (ja ζ (ja ζ (jn (jx (jrt (jtr ?_))))))))
  have hm : stepM i regs mem = ((t, false), regs, me) := (by rw [hJ.2 (by simp_all)]; simp_all)
  exact jr2 ζ ζ ζ () (by rw [hm]) dn (fun _ _ => (kcg (by rw [hm]) k0 (kcg (by rw [hm]) k2 kn)))
  refine jsk (jx (jq (jq (jr (js (jla k2 A46 Z46 ζ ζ ζ) (jcd E75 ζ ζ pMakes_ct (dc d0 dn) kn fun v187 q20 w20 => js (jln U22 d0 ζ) (jm ζ (jn (jx (jb ?_))))))))))
  refine jlp (u2 fun (k : Nat) (rs : List Int) => ⟨k ≤ (makesM i).length ∧ setAllM regs (makesM i) v = setAllM rs ((makesM i).drop k) v ∧ rs.length = regs.length, [dv (rL (rI .i64)) v187 (makesM i)], [gl B1 (rI .i32) 21 a1 rs, bx g4 34 [a1], gl B2 (rI .i32) 21 a2 me], [(11, .func (.func 70) #[] #[.pointer (some ⟨g4, 0, none⟩)]), (12, .int .i32 v), (187, v187), (188, .int .i64 (↑(List.length (makesM i)))), (189, .int .i64 (↑k))], (makesM i).length - k⟩) (0, regs) ⟨by omega, rfl, rfl⟩ (dc d0 dn) (kc k0 (kc k0 (kc k1 kn))) ⟨ζ, ζ, ζ, ζ, eqI (by omega), trivial⟩ ?_
  rintro ⟨k, rs⟩; dsimp only [u2]; rintro ⟨hk, hR, hl9⟩
  refine jq (jr (js (jlss ζ ζ) (jn (jx (jq ?_)))))
  refine jif ζ (fun hc15 => ?_) (fun hc15 => ?_)
  refine jsk (jx (jq (jb (jq (jr (js (jix U22 Z3 d0 ζ ζ ζ (by omega)) (js (jlI (dix d0 k (by omega)) O3 ζ) (ja ζ (jn (jx (jr ?_)))))))))))
  refine jm ζ (jm ζ (jm ζ (jc E70 ζ ζ (pSet_ct (ix (makesM i) k) v (by first | omega | (simp only [setM_len, storeM_len]; omega)) hvw) dn (kc k0 (kc k0 kn)) (fun _ => p0) (fun _ => p2) fun _ => jn (jbn (jx (jr (js (jadd ζ ζ (by omega)) (jm ζ (jn ?_)))))))))
  exact jag (k + 1, setM rs (ix (makesM i) k) v) ⟨by dsimp only; omega, by dsimp only; rw [hR, drop_ix (by omega)]; rfl, by dsimp only; rw [setM_len]; exact hl9⟩ (dc d0 dn) (kc k0 (kc k0 (kc k0 kn))) ⟨ζ, ζ, ζ, ζ, eqI (by omega), trivial⟩
  refine jex (jtx (jtx (jbh (jx (jq (jr (ja ζ (ja ζ (jn (jx (jrt ?_)))))))))))
  have hm : stepM i regs mem = ((0, true), rs, me) := (by first | exact doJ_end (by simp_all) hR (by omega) | (have e9 : ok = true := (by simp_all); subst e9; exact doJ_end hJ hR (by omega)))
  exact jr2 ζ ζ ζ () (by rw [hm]) dn (fun _ _ => (kcg (by rw [hm]) k0 (kcg (by rw [hm]) k1 kn)))
end Go.Proofs.YtdlcjaefkjbonaaGreat
namespace Go.JE
set_option linter.unusedVariables false
set_option linter.unusedSimpArgs false
set_option linter.unusedSectionVars false
variable {P : Program} {D D0 D1 E : List Dt} {L M N Ls L0 : List Res} {e : Env} {X : Cx} {n : Fs} {w0 : World} {Q : Exit → Act → World → Prop}
def it (Ls : List Res) : Res where
  sat F H := Ok F H Ls
  own k := Own Ls k
  lt := Ok.lt
  no := Ok.no
  st := fun hl hs h1 h2 h => Ok.st hl hs h1 h2 h
def dl (E : List Dt) : Dt := ⟨fun F => AllD F E, fun hl h => h.up hl⟩
theorem db {d : List Dt} (h : Sd D L d) : Nd D L (dl d) := h
theorem Ok.un {F : PH} {H : Heap} : Ok F H (it Ls :: M) ↔ Ok F H (Ls ++ M) := by
  induction Ls with
  | nil => exact ⟨fun h => h.2.2, fun h => ⟨trivial, fun _ h => h.elim, h⟩⟩
  | cons R Ls ih =>
    constructor
    · rintro ⟨⟨a, b, c⟩, d, f⟩
      have := ih.1 ⟨c, fun k hk => d k (.inr hk), f⟩
      exact ⟨a, fun k hk ho => (Own.app.1 ho).elim (b k hk) (d k (.inl hk)), this⟩
    · rintro ⟨a, b, c⟩
      obtain ⟨c1, c2, c3⟩ := ih.2 c
      exact ⟨⟨a, fun k hk ho => b k hk (Own.app.2 (.inl ho)), c1⟩, fun k hk ho => hk.elim (fun h => b k h (Own.app.2 (.inr ho))) (fun h => c2 k h ho), c3⟩
theorem Own.un {k : Nat} : Own (it Ls :: M) k ↔ Own (Ls ++ M) k := ⟨fun h => Own.app.2 h, fun h => Own.app.1 h⟩
theorem Tks.it (h : Tks L Ls M) : Tks L [it Ls] M where
  ok := fun o => by
    obtain ⟨a, b, c⟩ := h.ok o
    exact ⟨⟨a, fun _ _ => id, trivial⟩, b, fun k hk => c k (hk.resolve_right id)⟩
  own := fun o => h.own (o.imp (·.resolve_right id) id)
theorem Hp.unit {F : PH} {H : Heap} (h : Hp X D (JE.it Ls :: M) F H) : Hp X D (Ls ++ M) F H := ⟨h.hx, h.hin, h.hw, h.hd, Ok.un.1 h.ok, fun k hk => h.ge k (Own.un.2 hk)⟩
section
variable {ops : Array Oper} {d : Nat} {ty : TypeId} {pos : String} {af : Array Edge} {rest : List Oper} {f : FuncId} {g : Operand} {xs : List Operand} {vs cs : List Value} {args : Array Value} {ts : Array TypeId} {ι : Type} {val : ι → Value} {dr : ι → List Dt} {lr : Nat → ι → List Res} {v : Value}
abbrev Pd (P : Program) (f : FuncId) (args : Array Value) (D0 : List Dt) (Ls : List Res) (b : Bool) : Prop := Tr P f args D0 [it Ls] (fun _ : Unit => .bool b) (fun _ => []) (fun _ _ => [it Ls])
theorem Tr.it {D2 : List Dt} (h : Tr P f args D0 Ls val dr (fun _ _ => Ls)) (hd : ∀ {F : PH}, AllD F D2 → AllD F D0) : Tr P f args D2 [it Ls] val dr (fun _ _ => [JE.it Ls]) := fun F H hin hD ho =>
  (h F H hin (hd hD) ho.1).mono fun v H' ⟨i, F', h1, h2⟩ => ⟨i, F', h1, fun B hB => by
    have h3 := h2 B hB
    refine ⟨h3.hx, h3.hin, ⟨h3.hw.1, fun k h1 h4 => h3.hw.2 k h1 (fun h5 => h4 (.inl h5))⟩, h3.hd, ⟨h3.ok, fun _ _ => id, trivial⟩, fun k hk => (h3.ge k (hk.resolve_right id)).imp id .inl⟩⟩
theorem i1 {F : PH} {d : Dt} : AllD F [dl [d]] → AllD F [d] := fun h => h.1
theorem i0 {F : PH} {D2 : List Dt} : AllD F D2 → AllD F [] := fun _ => trivial
theorem il {F : PH} {c : Dt} {E : List Dt} : AllD F [c, dl E] → AllD F (c :: E) := fun h => ⟨h.1, h.2.1⟩
theorem ir {F : PH} {c : Dt} {E : List Dt} : AllD F [c, dl E] → AllD F [c] := fun h => ⟨h.1, trivial⟩
theorem jcp (hE : Ent P f) (hf : ev e g = some (.func (.func f) #[] cs.toArray)) (hl : evl e xs = some vs) (hT : Tr P f (vs ++ cs).toArray D0 [it Ls] (fun _ : Unit => v) (fun _ => []) (fun _ _ => [it Ls])) (hd : Sd D L D0) (hk : Tks L Ls M) (hq : Ap Ls M N)
    (k : LH P n w0 ops Q X D N ((d, v) :: e) rest) (hd1 : Nat.blt d n.sz = true := by rfl) : LH P n w0 ops Q X D L e (⟨some d, .call { callee := .value g, args := xs.toArray, argTypes := ts }, ty, pos, af, none⟩ :: rest) :=
  jc hE hf hl hT hd hk.it (fun _ => rfl) (fun _ => rfl) (fun _ F H h => k F H (hq ▸ h.unit)) hd1
theorem jgcp {j t : Nat} {want B : Bool} {u : Value} (hj : (ops[j]?).bind (·.dst) = some t) (hu : lk e t = some u) (hB : Gd u want B) (hE : Ent P f) (hf : ev e g = some (.func (.func f) #[] cs.toArray)) (hl : B = true → evl e xs = some vs) (hT : B = true → Tr P f (vs ++ cs).toArray D0 [it Ls] (fun _ : Unit => v) (fun _ => []) (fun _ _ => [it Ls])) (hd : B = true → Sd D L D0) (hk : Tks L Ls M) (hq : Ap Ls M N)
    (k : LH P n w0 ops Q X D N ((d, gv B v) :: e) rest) (hd1 : Nat.blt d n.sz = true := by rfl) (ht : Nat.blt t n.sz = true := by rfl) : LH P n w0 ops Q X D L e (⟨some d, .call { callee := .value g, args := xs.toArray, argTypes := ts }, ty, pos, af, some (j, want)⟩ :: rest) :=
  jgc hj hu hB hE hf hl hT hd hk.it rfl (fun F H h => k F H (hq ▸ h.unit)) hd1 ht
end
end Go.JE
namespace Go.Proofs.YtdlcjaefkjbonaaGreat
set_option linter.unusedVariables false
set_option linter.unusedSimpArgs false
set_option linter.unusedSectionVars false
open Go.JE
abbrev U68 := @Tryz.underlying68
abbrev U74 := @Tryz.underlying74
theorem A73 : ∃ d, Tryz.prog.underlying 73 = some d ∧ (match d with | .struct _ | .array _ _ => true | _ => false) = true := ⟨_, Tryz.underlying73, rfl⟩
theorem A76 : ∃ d, Tryz.prog.underlying 76 = some d ∧ (match d with | .struct _ | .array _ _ => true | _ => false) = true := ⟨_, Tryz.underlying76, rfl⟩
theorem E136 : Ent Tryz.prog 136 := ⟨_, Tryz.func136, by kernel_rfl, by kernel_rfl⟩
theorem E138 : Ent Tryz.prog 138 := ⟨_, Tryz.func138, by kernel_rfl, by kernel_rfl⟩
theorem E68 : Ent Tryz.prog 68 := ⟨_, Tryz.func68, by kernel_rfl, by kernel_rfl⟩
theorem Z73 : Sz Tryz.prog 73 2 := by unfold Sz; kernel_rfl
theorem Z76 : Sz Tryz.prog 76 2 := by unfold Sz; kernel_rfl
def idxM {α : Type} (l : List α) (q : α → Bool) : Int := match l.findIdx? q with
  | some i => i
  | none => -1
def anyM {α : Type} (l : List α) (q : α → Bool) : Bool := l.any q
theorem idx_hit {α : Type} [Inhabited α] {l : List α} {q : α → Bool} {k : Nat} (hk : k < l.length) (h : ∀ x ∈ l.take k, q x = false) (h1 : q (ix l k) = true) : idxM l q = k := by
  have : l.findIdx? q = some k := by
    rw [List.findIdx?_eq_some_iff_getElem]
    refine ⟨hk, by rw [← ix_eq hk]; exact h1, fun j hj => ?_⟩
    have := h l[j] (by rw [List.mem_take_iff_getElem]; exact ⟨j, by omega, rfl⟩)
    simp [this]
  simp [idxM, this]
theorem idx_none {α : Type} {l : List α} {q : α → Bool} {k : Nat} (hk : l.length ≤ k) (h : ∀ x ∈ l.take k, q x = false) : idxM l q = -1 := by
  rw [List.take_of_length_le hk] at h
  have : l.findIdx? q = none := by rw [List.findIdx?_eq_none_iff]; exact h
  simp [idxM, this]
theorem idx_any {α : Type} (l : List α) (q : α → Bool) : decide (0 ≤ idxM l q) = anyM l q := by
  unfold idxM anyM
  cases h : l.findIdx? q with
  | none =>
    rw [List.findIdx?_eq_none_iff] at h
    have : l.any q = false := by rw [List.any_eq_false]; intro x hx; simp [h x hx]
    rw [this]; rfl
  | some i =>
    obtain ⟨hi, h1, _⟩ := List.findIdx?_eq_some_iff_getElem.1 h
    have : l.any q = true := List.any_eq_true.2 ⟨_, List.getElem_mem hi, h1⟩
    rw [this]; simp
theorem no_snoc {α : Type} [Inhabited α] {l : List α} {q : α → Bool} {k : Nat} (hk : k < l.length) (h : ∀ x ∈ l.take k, q x = false) (h1 : q (ix l k) = false) : ∀ x ∈ l.take (k + 1), q x = false := by
  intro x hx
  rw [take_ix hk] at hx
  rcases List.mem_append.1 hx with hx | hx
  · exact h x hx
  · simp at hx; subst hx; exact h1
theorem Ct.kp {P : Program} {f : FuncId} {args : Array Value} {H : Heap} {u : Value} (h : Ct P f args H (fun v H' => v = u ∧ H' = H)) : Ct P f args H (fun v H' => v = u ∧ Kp H.size H H') := h.mono fun _ _ ⟨a, b⟩ => ⟨a, b ▸ Kp.refl _ _⟩
theorem idxFInt_ct {a0 : Value} {l : List Int} {fp : Nat} {cp : List Value} {D1 : List Dt} {L1 : List Res} (q : Int → Bool) (hE : Ent Tryz.prog fp) (hq : ∀ x, x ∈ l → Pd Tryz.prog fp (.int .i64 x :: cp).toArray [dl D1] L1 (q x)) : Tr Tryz.prog 138 #[a0, .func (.func fp) #[] cp.toArray] [dv (rL (rI .i64)) a0 l, dl D1] [it L1] (fun _ : Unit => .int .i64 (idxM l q)) (fun _ => []) (fun _ _ => [it L1]) := by
  refine jenter (args := [a0, .func (.func fp) #[] cp.toArray]) Tryz.func138 rfl rfl rfl fun w0 X => ?_
  refine jq (jr (ja ζ (jn (jx (jq (jq (jr (jm ζ (jdq d0 fun q1 w1 => js (jln U22 d0 ζ) (jm ζ ?_))))))))))
  refine jn (jx (jb ?_))
  refine jlp (fun (k : Nat) => ⟨k ≤ l.length ∧ (∀ x ∈ l.take k, q x = false), [dv (rL (rI .i64)) a0 l, dl D1], [it L1], [(0, a0), (1, .func (.func fp) #[] cp.toArray), (7, .int .i64 (↑(List.length l))), (8, .int .i64 (↑k))], l.length - k⟩) 0 ⟨by omega, by simp⟩ (dc d0 (dc d1 dn)) (kc k0 kn) ⟨ζ, ζ, ζ, eqI (by omega), trivial⟩ ?_
  rintro k; dsimp only; rintro ⟨hk, hR⟩
  refine jq (jr (js (jlss ζ ζ) (jn (jx (jq ?_)))))
  refine jif ζ (fun hc1 => ?_) (fun hc1 => ?_)
  refine jsk (jx (jq (jb (jq (jr (jm ζ (ja ζ (jn (jx (jq (jr ?_)))))))))))
  refine jm ζ (jm ζ (jm ζ (js (jix U22 Z3 d0 ζ ζ ζ (by omega)) (js (jlI (dix d0 k (by omega)) O3 ζ) (jc hE ζ ζ (hq (ix l k) (ix_mem (by omega))) (dc d1 dn) (kc k0 kn) (fun _ => p0) (fun _ => p1) fun _ => jn (jx ?_))))))
  refine jif ζ (fun hc2 => ?_) (fun hc2 => ?_)
  refine jq (jr (jm ζ (ja ζ (jn (jx (jrt (jbr (jtr (jtr (jbr (jtr ?_)))))))))))
  exact jr1 ζ ζ () (congrArg (Value.int .i64) (Eq.symm (idx_hit (by omega) hR hc2))) dn (fun _ _ => (kc k0 kn))
  refine jsk (jbn (jx (jr (js (jadd ζ ζ (by omega)) (jm ζ (jn ?_))))))
  exact jag (k + 1) ⟨by omega, no_snoc (by omega) hR hc2⟩ (dc d0 (dc d1 dn)) (kc k0 kn) ⟨ζ, ζ, ζ, eqI (by omega), trivial⟩
  refine jex (jtx (jtx (jbh (jx (jq (jr (ja ζ (jn (jx (jrt ?_))))))))))
  exact jr1 ζ ζ () (congrArg (Value.int .i64) (Eq.symm (idx_none (by omega) hR))) dn (fun _ _ => (kc k0 kn))
theorem anyFInt_ct {a0 : Value} {l : List Int} {fp : Nat} {cp : List Value} {D1 : List Dt} {L1 : List Res} (q : Int → Bool) (hE : Ent Tryz.prog fp) (hq : ∀ x, x ∈ l → Pd Tryz.prog fp (.int .i64 x :: cp).toArray [dl D1] L1 (q x)) : Tr Tryz.prog 99 #[a0, .func (.func fp) #[] cp.toArray] [dv (rL (rI .i64)) a0 l, dl D1] [it L1] (fun _ : Unit => .bool (anyM l q)) (fun _ => []) (fun _ _ => [it L1]) := by
  refine jenter (args := [a0, .func (.func fp) #[] cp.toArray]) Tryz.func99 rfl rfl rfl fun w0 X => ?_
  refine jq (jr (ja ζ (jn (jx (jq (jr (jm ζ (jm ζ (jdq d0 fun q1 w1 => jc E138 ζ ζ (idxFInt_ct q hE hq) (dc d0 (dc d1 dn)) (kc k0 kn) (fun _ => p0) (fun _ => p1) fun _ => js (jgeq ζ ζ) ?_)))))))))
  refine ja ζ (jn (jx (jrt ?_)))
  exact jr1 ζ ζ () (congrArg Value.bool (Eq.symm ((idx_any l q).symm))) dn (fun _ _ => (kc k0 kn))
theorem idxFIn_ct {a0 : Value} {l : List D.In} {fp : Nat} {cp : List Value} {D1 : List Dt} {L1 : List Res} (q : D.In → Bool) (hE : Ent Tryz.prog fp) (hq : ∀ x, x ∈ l → ∀ c : Unit, Pd Tryz.prog fp (vIn x c :: cp).toArray [da rIn (vIn x c) x, dl D1] L1 (q x)) : Tr Tryz.prog 68 #[a0, .func (.func fp) #[] cp.toArray] [dv (rL rIn) a0 l, dl D1] [it L1] (fun _ : Unit => .int .i64 (idxM l q)) (fun _ => []) (fun _ _ => [it L1]) := by
  refine jenter (args := [a0, .func (.func fp) #[] cp.toArray]) Tryz.func68 rfl rfl rfl fun w0 X => ?_
  refine jq (jr (ja ζ (jn (jx (jq (jq (jr (jm ζ (jdq d0 fun q1 w1 => js (jln U74 d0 ζ) (jm ζ ?_))))))))))
  refine jn (jx (jb ?_))
  refine jlp (fun (k : Nat) => ⟨k ≤ l.length ∧ (∀ x ∈ l.take k, q x = false), [dv (rL rIn) a0 l, dl D1], [it L1], [(0, a0), (1, .func (.func fp) #[] cp.toArray), (7, .int .i64 (↑(List.length l))), (8, .int .i64 (↑k))], l.length - k⟩) 0 ⟨by omega, by simp⟩ (dc d0 (dc d1 dn)) (kc k0 kn) ⟨ζ, ζ, ζ, eqI (by omega), trivial⟩ ?_
  rintro k; dsimp only; rintro ⟨hk, hR⟩
  refine jq (jr (js (jlss ζ ζ) (jn (jx (jq ?_)))))
  refine jif ζ (fun hc1 => ?_) (fun hc1 => ?_)
  refine jsk (jx (jq (jb (jq (jr (jm ζ (ja ζ (jn (jx (jq (jr ?_)))))))))))
  refine jm ζ (jm ζ (jm ζ (js (jix U74 Z73 d0 ζ ζ ζ (by omega)) (jA sIn (jlA (dix d0 k (by omega)) A73 Z73 ζ) fun _ => jc hE ζ ζ (hq (ix l k) (ix_mem (by omega)) ()) (dc d0 (dc d2 dn)) (kc k0 kn) (fun _ => p0) (fun _ => p1) fun _ => jn (jx ?_)))))
  refine jif ζ (fun hc2 => ?_) (fun hc2 => ?_)
  refine jq (jr (jm ζ (ja ζ (jn (jx (jrt (jbr (jtr (jtr (jbr (jtr ?_)))))))))))
  exact jr1 ζ ζ () (congrArg (Value.int .i64) (Eq.symm (idx_hit (by omega) hR hc2))) dn (fun _ _ => (kc k0 kn))
  refine jsk (jbn (jx (jr (js (jadd ζ ζ (by omega)) (jm ζ (jn ?_))))))
  exact jag (k + 1) ⟨by omega, no_snoc (by omega) hR hc2⟩ (dc d1 (dc d2 dn)) (kc k0 kn) ⟨ζ, ζ, ζ, eqI (by omega), trivial⟩
  refine jex (jtx (jtx (jbh (jx (jq (jr (ja ζ (jn (jx (jrt ?_))))))))))
  exact jr1 ζ ζ () (congrArg (Value.int .i64) (Eq.symm (idx_none (by omega) hR))) dn (fun _ _ => (kc k0 kn))
theorem anyFIn_ct {a0 : Value} {l : List D.In} {fp : Nat} {cp : List Value} {D1 : List Dt} {L1 : List Res} (q : D.In → Bool) (hE : Ent Tryz.prog fp) (hq : ∀ x, x ∈ l → ∀ c : Unit, Pd Tryz.prog fp (vIn x c :: cp).toArray [da rIn (vIn x c) x, dl D1] L1 (q x)) : Tr Tryz.prog 93 #[a0, .func (.func fp) #[] cp.toArray] [dv (rL rIn) a0 l, dl D1] [it L1] (fun _ : Unit => .bool (anyM l q)) (fun _ => []) (fun _ _ => [it L1]) := by
  refine jenter (args := [a0, .func (.func fp) #[] cp.toArray]) Tryz.func93 rfl rfl rfl fun w0 X => ?_
  refine jq (jr (ja ζ (jn (jx (jq (jr (jm ζ (jm ζ (jdq d0 fun q1 w1 => jc E68 ζ ζ (idxFIn_ct q hE hq) (dc d0 (dc d1 dn)) (kc k0 kn) (fun _ => p0) (fun _ => p1) fun _ => js (jgeq ζ ζ) ?_)))))))))
  refine ja ζ (jn (jx (jrt ?_)))
  exact jr1 ζ ζ () (congrArg Value.bool (Eq.symm ((idx_any l q).symm))) dn (fun _ _ => (kc k0 kn))
theorem idxFPhi_ct {a0 : Value} {l : List D.Phi} {fp : Nat} {cp : List Value} {D1 : List Dt} {L1 : List Res} (q : D.Phi → Bool) (hE : Ent Tryz.prog fp) (hq : ∀ x, x ∈ l → ∀ c : Value, Pd Tryz.prog fp (vPhi x c :: cp).toArray [da rPhi (vPhi x c) x, dl D1] L1 (q x)) : Tr Tryz.prog 136 #[a0, .func (.func fp) #[] cp.toArray] [dv (rL rPhi) a0 l, dl D1] [it L1] (fun _ : Unit => .int .i64 (idxM l q)) (fun _ => []) (fun _ _ => [it L1]) := by
  refine jenter (args := [a0, .func (.func fp) #[] cp.toArray]) Tryz.func136 rfl rfl rfl fun w0 X => ?_
  refine jq (jr (ja ζ (jn (jx (jq (jq (jr (jm ζ (jdq d0 fun q1 w1 => js (jln U68 d0 ζ) (jm ζ ?_))))))))))
  refine jn (jx (jb ?_))
  refine jlp (fun (k : Nat) => ⟨k ≤ l.length ∧ (∀ x ∈ l.take k, q x = false), [dv (rL rPhi) a0 l, dl D1], [it L1], [(0, a0), (1, .func (.func fp) #[] cp.toArray), (7, .int .i64 (↑(List.length l))), (8, .int .i64 (↑k))], l.length - k⟩) 0 ⟨by omega, by simp⟩ (dc d0 (dc d1 dn)) (kc k0 kn) ⟨ζ, ζ, ζ, eqI (by omega), trivial⟩ ?_
  rintro k; dsimp only; rintro ⟨hk, hR⟩
  refine jq (jr (js (jlss ζ ζ) (jn (jx (jq ?_)))))
  refine jif ζ (fun hc1 => ?_) (fun hc1 => ?_)
  refine jsk (jx (jq (jb (jq (jr (jm ζ (ja ζ (jn (jx (jq (jr ?_)))))))))))
  refine jm ζ (jm ζ (jm ζ (js (jix U68 Z76 d0 ζ ζ ζ (by omega)) (jA sPhi (jlA (dix d0 k (by omega)) A76 Z76 ζ) fun c15 => jc hE ζ ζ (hq (ix l k) (ix_mem (by omega)) c15) (dc d0 (dc d2 dn)) (kc k0 kn) (fun _ => p0) (fun _ => p1) fun _ => jn (jx ?_)))))
  refine jif ζ (fun hc2 => ?_) (fun hc2 => ?_)
  refine jq (jr (jm ζ (ja ζ (jn (jx (jrt (jbr (jtr (jtr (jbr (jtr ?_)))))))))))
  exact jr1 ζ ζ () (congrArg (Value.int .i64) (Eq.symm (idx_hit (by omega) hR hc2))) dn (fun _ _ => (kc k0 kn))
  refine jsk (jbn (jx (jr (js (jadd ζ ζ (by omega)) (jm ζ (jn ?_))))))
  exact jag (k + 1) ⟨by omega, no_snoc (by omega) hR hc2⟩ (dc d1 (dc d2 dn)) (kc k0 kn) ⟨ζ, ζ, ζ, eqI (by omega), trivial⟩
  refine jex (jtx (jtx (jbh (jx (jq (jr (ja ζ (jn (jx (jrt ?_))))))))))
  exact jr1 ζ ζ () (congrArg (Value.int .i64) (Eq.symm (idx_none (by omega) hR))) dn (fun _ _ => (kc k0 kn))
theorem anyFPhi_ct {a0 : Value} {l : List D.Phi} {fp : Nat} {cp : List Value} {D1 : List Dt} {L1 : List Res} (q : D.Phi → Bool) (hE : Ent Tryz.prog fp) (hq : ∀ x, x ∈ l → ∀ c : Value, Pd Tryz.prog fp (vPhi x c :: cp).toArray [da rPhi (vPhi x c) x, dl D1] L1 (q x)) : Tr Tryz.prog 95 #[a0, .func (.func fp) #[] cp.toArray] [dv (rL rPhi) a0 l, dl D1] [it L1] (fun _ : Unit => .bool (anyM l q)) (fun _ => []) (fun _ _ => [it L1]) := by
  refine jenter (args := [a0, .func (.func fp) #[] cp.toArray]) Tryz.func95 rfl rfl rfl fun w0 X => ?_
  refine jq (jr (ja ζ (jn (jx (jq (jr (jm ζ (jm ζ (jdq d0 fun q1 w1 => jc E136 ζ ζ (idxFPhi_ct q hE hq) (dc d0 (dc d1 dn)) (kc k0 kn) (fun _ => p0) (fun _ => p1) fun _ => js (jgeq ζ ζ) ?_)))))))))
  refine ja ζ (jn (jx (jrt ?_)))
  exact jr1 ζ ζ () (congrArg Value.bool (Eq.symm ((idx_any l q).symm))) dn (fun _ _ => (kc k0 kn))
end Go.Proofs.YtdlcjaefkjbonaaGreat
