/- Lemmas that the claim is made of. Conditions: each lemma names its own. -/
import Derived.Test.YtmfkkodnghambaaGreatKK2
set_option maxRecDepth 20000
set_option maxHeartbeats 4000000
set_option linter.unusedSectionVars false
set_option linter.unusedSimpArgs false
set_option linter.unusedVariables false
namespace Go.Proofs.YtmfkkodnghambaaGreat
open Go.JE
theorem Ix:Ent Tryz.prog 119:=⟨_,Tryz.func119,by kernel_rfl,by kernel_rfl⟩
theorem ST{vs vb al:Value}{m:Mk}{nb c:Nat}{S:List Int}{g0:Nat}{B0 B1:Nat}{qs:List BV}(hok:okS nb c S m)(hc:c≤950000)(b:Int)(st:Bool)(hb9:0≤b∧b<nb):KB Tryz.prog 121 [.int .i64 b,.bool st] [] g0 vs vb al S B0 B1 qs [] m (Cd b st m) (.tuple #[]):=by
 refine Af (args:=[.pointer (some ⟨g0,0,none⟩),.int .i64 b,.bool st]) Tryz.func121 rfl rfl rfl fun w0 X=>?_
 refine cgo k1 fun w1=>?_
 have bd0:=okM.bnd hok.1
 refine cbk k2 (okM.bnd hok.1).2.2.2.2.2.2.2.1 fun hvb=>?_
 have hbn:b.toNat<nb:=by omega
 refine jq (jr (jm Z (jm Z (jm Z (jkr E47 Z Z (Du hok (by omega) 9 (by first|exact hb9|decide|omega)) (dc d0 dn) (kd (kc k0 kn)) ⟨tO9 hok.1,hok.2⟩ fun m15 hm15 om15 bm15=>?_)))))
 have w15_0:IntKind.i64.wrap (tVV 9 m)=tVV 9 m:=(IntWalk.i64_in _ (by have h9:=@tV9 9 (by omega) m;omega))
 have tr15:=@tV9 9 (by omega) m
 clear bd0
 refine js (jco U3 U21 Z Z) (jkb E70 Z Z (Oq om15 (by omega) b (IntKind.i32.wrap (tVV 9 m)) (by first|exact hb9|decide|omega) (JE.wrap_wrap _ _)) (dc d0 dn) (kd (kc k0 kn)) ⟨Hc om15.1 hbn,(Mc.trans om15.2)⟩ p1 fun m17 hm17 om17 bm17 ua17 qs17 w2=>?_)
 clear bm15
 refine ja Z (jn (jx (jq (jq (jr (jm Z (jkr E47 Z Z (Du om17 (by omega) 3 (by first|exact hb9|decide|omega)) (dc d1 dn) (kd (kc k0 kn)) ⟨tO9 om17.1,om17.2⟩ fun m19 hm19 om19 bm19=>?_)))))))
 have w19_0:IntKind.i64.wrap (tVV 3 m17)=tVV 3 m17:=(IntWalk.i64_in _ (by have h9:=@tV9 3 (by omega) m17;omega))
 have tr19:=@tV9 3 (by omega) m17
 clear bm17
 refine js (Aj Z Z) (jn (jx ?_))
 refine jif Z (fun hc1=>?_) (fun hc1=>?_)
 refine jq (jr (jm Z (jm Z (jkb Ix Z Z (Io om19 (by omega) b (by first|exact hb9|decide|omega)) (dc d1 dn) (kd (kc k0 kn)) ⟨Dy om19.1 hbn,(Ge.trans om19.2)⟩ p1 fun m23 hm23 om23 bm23 ua23 qs23 w4=>?_))))
 clear bm19
 refine ja Z (jn (jx (jq (jr (jm Z (jm Z (jkb E70 Z Z (Oq om23 (by omega) b 7 (by first|exact hb9|decide|omega) (by decide)) (dc d2 dn) (kd (kc k0 kn)) ⟨Hc om23.1 hbn,(Mc.trans om23.2)⟩ p1 fun m26 hm26 om26 bm26 ua26 qs26 w6=>?_)))))))
 clear bm23
 refine ja Z (jn (jx (jq (jr (jm Z (jkr E64 Z Z (Gn om26 (by omega)) (dc d3 dn) (kd (kc k0 kn)) ⟨Dw om26.1,om26.2⟩ fun m28 hm28 om28 bm28=>?_))))))
 have w28_0:IntKind.i64.wrap (m26.nx)=m26.nx:=(IntWalk.i64_in _ (by omega))
 clear bm26
 refine ja Z (jn (jx (jq (jr (jm Z (jm Z (jm Z (jm Z (jm Z (Ba (r:=(rI .i64)) (l:=[sV9 m19,m23.nx]) U22 I3 (by decide) Z Z Z (lV Z Z (wI ((wfw d1))) (lV Z Z (wI ((wfw d0))) ln)) fun g34=>js (jbu (v := .agg #[.int .i64 5,.int .i64 m26.nx,.int .i64 0,(.slice (some ⟨g34,0,none⟩) 2 2),.int .i32 0]) Z (fun _=>by kernel_rfl)) ?_))))))))))
 refine jfz k0 (by(try simp)<;>omega) (jkb Gj Z Z (Gf (i:=⟨5,m26.nx,0,[sV9 m19,m23.nx],0⟩) om28 (by omega) b (by first|exact hb9|decide|omega)) (dc d4 (dc (Ae.M (m:=⟨5,m26.nx,0,[sV9 m19,m23.nx],0⟩) (c:=(.slice (some ⟨g34,0,none⟩) 2 2)) d0 (wl 5) (wp w28_0) (wl 0) (wl 0)) dn)) (kd (kc k0 kn)) ⟨Dx om28.1 hbn,(Fd.trans om28.2)⟩ p0 fun m36 hm36 om36 bm36 ua36 qs36 w9=>?_)
 clear bm28
 refine jn (jx (jq (jr (jm Z (jkr E64 Z Z (Gn om36 (by omega)) (dc d4 dn) (kd (kc k0 kn)) ⟨Dw om36.1,om36.2⟩ fun m38 hm38 om38 bm38=>?_)))))
 have w38_0:IntKind.i64.wrap (m36.nx)=m36.nx:=(IntWalk.i64_in _ (by omega))
 clear bm36
 refine ja Z (jn (jx (jq (jr (jm Z (jm Z (jm Z (jm Z (jm Z (Ba (r:=(rI .i64)) (l:=[m15.nx,m26.nx]) U22 I3 (by decide) Z Z Z (lV Z Z (wI ((wfw d3))) (lV Z Z (wI (wp w28_0)) ln)) fun g44=>js (jbu (v := .agg #[.int .i64 2,.int .i64 m36.nx,.int .i64 0,(.slice (some ⟨g44,0,none⟩) 2 2),.int .i32 0]) Z (fun _=>by kernel_rfl)) ?_))))))))))
 refine jfz k0 (by(try simp)<;>omega) (jkb Gj Z Z (Gf (i:=⟨2,m36.nx,0,[m15.nx,m26.nx],0⟩) om38 (by omega) b (by first|exact hb9|decide|omega)) (dc d5 (dc (Ae.M (m:=⟨2,m36.nx,0,[m15.nx,m26.nx],0⟩) (c:=(.slice (some ⟨g44,0,none⟩) 2 2)) d0 (wl 2) (wp w38_0) (wl 0) (wl 0)) dn)) (kd (kc k0 kn)) ⟨Dx om38.1 hbn,(Fd.trans om38.2)⟩ p0 fun m46 hm46 om46 bm46 ua46 qs46 w11=>?_)
 clear bm38
 refine jn (jx (jr (jm Z (ja Z (jn (jx (jq (jr (jm Z (jkr E47 Z Z (Du om46 (by omega) 4 (by first|exact hb9|decide|omega)) (dc d5 dn) (kd (kc k0 kn)) ⟨tO9 om46.1,om46.2⟩ fun m49 hm49 om49 bm49=>?_))))))))))
 have w49_0:IntKind.i64.wrap (tVV 4 m46)=tVV 4 m46:=(IntWalk.i64_in _ (by have h9:=@tV9 4 (by omega) m46;omega))
 have tr49:=@tV9 4 (by omega) m46
 clear bm46
 refine js (jco U3 U21 Z Z) (ja Z (jn (jx (jq (jq (jr (jm Z (jkr E47 Z Z (Du om49 (by omega) 12 (by first|exact hb9|decide|omega)) (dc d5 dn) (kd (kc k0 kn)) ⟨tO9 om49.1,om49.2⟩ fun m52 hm52 om52 bm52=>?_))))))))
 have w52_0:IntKind.i64.wrap (tVV 12 m49)=tVV 12 m49:=(IntWalk.i64_in _ (by have h9:=@tV9 12 (by omega) m49;omega))
 have tr52:=@tV9 12 (by omega) m49
 clear bm49
 refine js (Aj Z Z) (jn (jx ?_))
 refine jif Z (fun hc2=>?_) (fun hc2=>?_)
 refine jr (jm Z (jkr E71 Z Z (Pq om52 (by omega)) (dc d5 dn) (kd (kc k0 kn)) ⟨Lj om52.1,om52.2⟩ fun m55 hm55 om55 bm55=>?_))
 have w55_0:IntKind.i32.wrap (Ar m52)=Ar m52:=(Pg m52)
 clear bm52
 refine ja Z (jn (jx (jq (jr (jm Z (jn (jx ?_)))))))
 refine jif Z (fun hc3=>?_) (fun hc3=>?_)
 refine jr (jm Z (jm Z (jm Z (jm Z (jm Z (jkb Ix Z Z (Io om55 (by omega) b (by first|exact hb9|decide|omega)) (dc d5 dn) (kd (kc k0 kn)) ⟨Dy om55.1 hbn,(Ge.trans om55.2)⟩ p1 fun m62 hm62 om62 bm62 ua62 qs62 w12=>?_))))))
 clear bm55
 refine Ba (r:=(rI .i64)) (l:=[m36.nx,sV9 m55]) U22 I3 (by decide) Z Z Z (lV Z Z (wI (wp w38_0)) (lV Z Z (wI ((wfw d0))) ln)) fun g63=>jm Z (js (jbu (v := .agg #[.int .i64 16,.int .i64 0,.int .i64 0,(.slice (some ⟨g63,0,none⟩) 2 2),.int .i32 (Ar m52)]) Z (fun _=>by kernel_rfl)) (jfz k0 (by(try simp)<;>omega) (jkb Gj Z Z (Gf (i:=⟨16,0,0,[m36.nx,sV9 m55],Ar m52⟩) om62 (by omega) b (by first|exact hb9|decide|omega)) (dc d7 (dc (Ae.M (m:=⟨16,0,0,[m36.nx,sV9 m55],Ar m52⟩) (c:=(.slice (some ⟨g63,0,none⟩) 2 2)) d0 (wl 16) (wl 0) (wl 0) (wp w55_0)) dn)) (kd (kc k0 kn)) ⟨Dx om62.1 hbn,(Fd.trans om62.2)⟩ p0 fun m66 hm66 om66 bm66 ua66 qs66 w15=>?_)))
 clear bm62
 refine jn ?_
 have hst:m66=Cd b st m:=(by(try simp only[hm15,hm17,hm19,hm23,hm26,hm28,hm36,hm38,hm46,hm49,hm52,hm55,hm62,hm66] at hc1 hc2 hc3);(try simp only[hm15,hm17,hm19,hm23,hm26,hm28,hm36,hm38,hm46,hm49,hm52,hm55,hm62,hm66]);all_goals first|rfl|(simp[Cd,Bp,mem2,hc1,hc2,hc3];done)|(simp[Cd,Bp,mem2,hc1,hc2,hc3];rfl)|(unfold Cd Bp mem2;(repeat' split)<;>first|rfl|(exfalso;omega)|(simp[hc1,hc2,hc3] at *;done)|(simp_all;done)))
 exact jd0 Z (ua66,qs66) Z dn (fun _ _=>(kcb (by rw[←hst]) k0 (kcg (by rw[←hst]) k0 (kck (by rw[←hst]) k0 kn))))
 refine jr (jm Z (jm Z (jm Z (jkr E64 Z Z (Gn om55 (by omega)) (dc d5 dn) (kd (kc k0 kn)) ⟨Dw om55.1,om55.2⟩ fun m70 hm70 om70 bm70=>?_))))
 have w70_0:IntKind.i64.wrap (m55.nx)=m55.nx:=(IntWalk.i64_in _ (by omega))
 clear bm55
 refine jm Z (Ba (r:=(rI .i64)) (l:=[m36.nx]) U22 I3 (by decide) Z Z Z (lV Z Z (wI (wp w38_0)) ln) fun g72=>jm Z (js (jbu (v := .agg #[.int .i64 15,.int .i64 m55.nx,.int .i64 0,(.slice (some ⟨g72,0,none⟩) 1 1),.int .i32 (Ar m52)]) Z (fun _=>by kernel_rfl)) (jfz k0 (by(try simp)<;>omega) (jkb Gj Z Z (Gf (i:=⟨15,m55.nx,0,[m36.nx],Ar m52⟩) om70 (by omega) b (by first|exact hb9|decide|omega)) (dc d6 (dc (Ae.M (m:=⟨15,m55.nx,0,[m36.nx],Ar m52⟩) (c:=(.slice (some ⟨g72,0,none⟩) 1 1)) d0 (wl 15) (wp w70_0) (wl 0) (wp w55_0)) dn)) (kd (kc k0 kn)) ⟨Dx om70.1 hbn,(Fd.trans om70.2)⟩ p0 fun m75 hm75 om75 bm75 ua75 qs75 w17=>?_))))
 clear bm70
 refine jn ?_
 have hst:m75=Cd b st m:=(by(try simp only[hm15,hm17,hm19,hm23,hm26,hm28,hm36,hm38,hm46,hm49,hm52,hm55,hm70,hm75] at hc1 hc2 hc3);(try simp only[hm15,hm17,hm19,hm23,hm26,hm28,hm36,hm38,hm46,hm49,hm52,hm55,hm70,hm75]);all_goals first|rfl|(simp[Cd,Bp,mem2,hc1,hc2,hc3];done)|(simp[Cd,Bp,mem2,hc1,hc2,hc3];rfl)|(unfold Cd Bp mem2;(repeat' split)<;>first|rfl|(exfalso;omega)|(simp[hc1,hc2,hc3] at *;done)|(simp_all;done)))
 exact jd0 Z (ua75,qs75) Z dn (fun _ _=>(kcb (by rw[←hst]) k0 (kcg (by rw[←hst]) k0 (kck (by rw[←hst]) k0 kn))))
 refine jsk (jx (jq (jr (jm Z (jn (jx ?_))))))
 refine jif Z (fun hc4=>?_) (fun hc4=>?_)
 refine jr (jm Z (jm Z (jm Z (jm Z (jm Z (jkb Ix Z Z (Io om52 (by omega) b (by first|exact hb9|decide|omega)) (dc d5 dn) (kd (kc k0 kn)) ⟨Dy om52.1 hbn,(Ge.trans om52.2)⟩ p1 fun m62 hm62 om62 bm62 ua62 qs62 w18=>?_))))))
 clear bm52
 refine Ba (r:=(rI .i64)) (l:=[m36.nx,sV9 m52]) U22 I3 (by decide) Z Z Z (lV Z Z (wI (wp w38_0)) (lV Z Z (wI ((wfw d0))) ln)) fun g63_20=>jm Z (js (jbu (v := .agg #[.int .i64 16,.int .i64 0,.int .i64 0,(.slice (some ⟨g63_20,0,none⟩) 2 2),.int .i32 (IntKind.i32.wrap (tVV 4 m46))]) Z (fun _=>by kernel_rfl)) (jfz k0 (by(try simp)<;>omega) (jkb Gj Z Z (Gf (i:=⟨16,0,0,[m36.nx,sV9 m52],IntKind.i32.wrap (tVV 4 m46)⟩) om62 (by omega) b (by first|exact hb9|decide|omega)) (dc d7 (dc (Ae.M (m:=⟨16,0,0,[m36.nx,sV9 m52],IntKind.i32.wrap (tVV 4 m46)⟩) (c:=(.slice (some ⟨g63_20,0,none⟩) 2 2)) d0 (wl 16) (wl 0) (wl 0) (wp (JE.wrap_wrap _ _))) dn)) (kd (kc k0 kn)) ⟨Dx om62.1 hbn,(Fd.trans om62.2)⟩ p0 fun m66 hm66 om66 bm66 ua66 qs66 w22=>?_)))
 clear bm62
 refine jn ?_
 have hst:m66=Cd b st m:=(by(try simp only[hm15,hm17,hm19,hm23,hm26,hm28,hm36,hm38,hm46,hm49,hm52,hm62,hm66] at hc1 hc2 hc4);(try simp only[hm15,hm17,hm19,hm23,hm26,hm28,hm36,hm38,hm46,hm49,hm52,hm62,hm66]);all_goals first|rfl|(simp[Cd,Bp,mem2,hc1,hc2,hc4];done)|(simp[Cd,Bp,mem2,hc1,hc2,hc4];rfl)|(unfold Cd Bp mem2;(repeat' split)<;>first|rfl|(exfalso;omega)|(simp[hc1,hc2,hc4] at *;done)|(simp_all;done)))
 exact jd0 Z (ua66,qs66) Z dn (fun _ _=>(kcb (by rw[←hst]) k0 (kcg (by rw[←hst]) k0 (kck (by rw[←hst]) k0 kn))))
 refine jr (jm Z (jm Z (jm Z (jkr E64 Z Z (Gn om52 (by omega)) (dc d5 dn) (kd (kc k0 kn)) ⟨Dw om52.1,om52.2⟩ fun m70 hm70 om70 bm70=>?_))))
 have w70_0:IntKind.i64.wrap (m52.nx)=m52.nx:=(IntWalk.i64_in _ (by omega))
 clear bm52
 refine jm Z (Ba (r:=(rI .i64)) (l:=[m36.nx]) U22 I3 (by decide) Z Z Z (lV Z Z (wI (wp w38_0)) ln) fun g72_23=>jm Z (js (jbu (v := .agg #[.int .i64 15,.int .i64 m52.nx,.int .i64 0,(.slice (some ⟨g72_23,0,none⟩) 1 1),.int .i32 (IntKind.i32.wrap (tVV 4 m46))]) Z (fun _=>by kernel_rfl)) (jfz k0 (by(try simp)<;>omega) (jkb Gj Z Z (Gf (i:=⟨15,m52.nx,0,[m36.nx],IntKind.i32.wrap (tVV 4 m46)⟩) om70 (by omega) b (by first|exact hb9|decide|omega)) (dc d6 (dc (Ae.M (m:=⟨15,m52.nx,0,[m36.nx],IntKind.i32.wrap (tVV 4 m46)⟩) (c:=(.slice (some ⟨g72_23,0,none⟩) 1 1)) d0 (wl 15) (wp w70_0) (wl 0) (wp (JE.wrap_wrap _ _))) dn)) (kd (kc k0 kn)) ⟨Dx om70.1 hbn,(Fd.trans om70.2)⟩ p0 fun m75 hm75 om75 bm75 ua75 qs75 w25=>?_))))
 clear bm70
 refine jn ?_
 have hst:m75=Cd b st m:=(by(try simp only[hm15,hm17,hm19,hm23,hm26,hm28,hm36,hm38,hm46,hm49,hm52,hm70,hm75] at hc1 hc2 hc4);(try simp only[hm15,hm17,hm19,hm23,hm26,hm28,hm36,hm38,hm46,hm49,hm52,hm70,hm75]);all_goals first|rfl|(simp[Cd,Bp,mem2,hc1,hc2,hc4];done)|(simp[Cd,Bp,mem2,hc1,hc2,hc4];rfl)|(unfold Cd Bp mem2;(repeat' split)<;>first|rfl|(exfalso;omega)|(simp[hc1,hc2,hc4] at *;done)|(simp_all;done)))
 exact jd0 Z (ua75,qs75) Z dn (fun _ _=>(kcb (by rw[←hst]) k0 (kcg (by rw[←hst]) k0 (kck (by rw[←hst]) k0 kn))))
 refine jsk (jx (jq (jr (jm Z (jkr E47 Z Z (Du om19 (by omega) 4 (by first|exact hb9|decide|omega)) (dc d1 dn) (kd (kc k0 kn)) ⟨tO9 om19.1,om19.2⟩ fun m49 hm49 om49 bm49=>?_)))))
 have w49_0:IntKind.i64.wrap (tVV 4 m19)=tVV 4 m19:=(IntWalk.i64_in _ (by have h9:=@tV9 4 (by omega) m19;omega))
 have tr49:=@tV9 4 (by omega) m19
 clear bm19
 refine js (jco U3 U21 Z Z) (ja Z (jn (jx (jq (jq (jr (jm Z (jkr E47 Z Z (Du om49 (by omega) 12 (by first|exact hb9|decide|omega)) (dc d1 dn) (kd (kc k0 kn)) ⟨tO9 om49.1,om49.2⟩ fun m52 hm52 om52 bm52=>?_))))))))
 have w52_0:IntKind.i64.wrap (tVV 12 m49)=tVV 12 m49:=(IntWalk.i64_in _ (by have h9:=@tV9 12 (by omega) m49;omega))
 have tr52:=@tV9 12 (by omega) m49
 clear bm49
 refine js (Aj Z Z) (jn (jx ?_))
 refine jif Z (fun hc5=>?_) (fun hc5=>?_)
 refine jr (jm Z (jkr E71 Z Z (Pq om52 (by omega)) (dc d1 dn) (kd (kc k0 kn)) ⟨Lj om52.1,om52.2⟩ fun m55 hm55 om55 bm55=>?_))
 have w55_0:IntKind.i32.wrap (Ar m52)=Ar m52:=(Pg m52)
 clear bm52
 refine ja Z (jn (jx (jq (jr (jm Z (jn (jx ?_)))))))
 refine jif Z (fun hc6=>?_) (fun hc6=>?_)
 refine jr (jm Z (jm Z (jm Z (jm Z (jm Z (jkb Ix Z Z (Io om55 (by omega) b (by first|exact hb9|decide|omega)) (dc d1 dn) (kd (kc k0 kn)) ⟨Dy om55.1 hbn,(Ge.trans om55.2)⟩ p1 fun m62 hm62 om62 bm62 ua62 qs62 w26=>?_))))))
 clear bm55
 refine Ba (r:=(rI .i64)) (l:=[m15.nx,sV9 m55]) U22 I3 (by decide) Z Z Z (lV Z Z (wI ((wfw d1))) (lV Z Z (wI ((wfw d0))) ln)) fun g63_28=>jm Z (js (jbu (v := .agg #[.int .i64 16,.int .i64 0,.int .i64 0,(.slice (some ⟨g63_28,0,none⟩) 2 2),.int .i32 (Ar m52)]) Z (fun _=>by kernel_rfl)) (jfz k0 (by(try simp)<;>omega) (jkb Gj Z Z (Gf (i:=⟨16,0,0,[m15.nx,sV9 m55],Ar m52⟩) om62 (by omega) b (by first|exact hb9|decide|omega)) (dc d3 (dc (Ae.M (m:=⟨16,0,0,[m15.nx,sV9 m55],Ar m52⟩) (c:=(.slice (some ⟨g63_28,0,none⟩) 2 2)) d0 (wl 16) (wl 0) (wl 0) (wp w55_0)) dn)) (kd (kc k0 kn)) ⟨Dx om62.1 hbn,(Fd.trans om62.2)⟩ p0 fun m66 hm66 om66 bm66 ua66 qs66 w30=>?_)))
 clear bm62
 refine jn ?_
 have hst:m66=Cd b st m:=(by(try simp only[hm15,hm17,hm19,hm49,hm52,hm55,hm62,hm66] at hc1 hc5 hc6);(try simp only[hm15,hm17,hm19,hm49,hm52,hm55,hm62,hm66]);all_goals first|rfl|(simp[Cd,Bp,mem2,hc1,hc5,hc6];done)|(simp[Cd,Bp,mem2,hc1,hc5,hc6];rfl)|(unfold Cd Bp mem2;(repeat' split)<;>first|rfl|(exfalso;omega)|(simp[hc1,hc5,hc6] at *;done)|(simp_all;done)))
 exact jd0 Z (ua66,qs66) Z dn (fun _ _=>(kcb (by rw[←hst]) k0 (kcg (by rw[←hst]) k0 (kck (by rw[←hst]) k0 kn))))
 refine jr (jm Z (jm Z (jm Z (jkr E64 Z Z (Gn om55 (by omega)) (dc d1 dn) (kd (kc k0 kn)) ⟨Dw om55.1,om55.2⟩ fun m70 hm70 om70 bm70=>?_))))
 have w70_0:IntKind.i64.wrap (m55.nx)=m55.nx:=(IntWalk.i64_in _ (by omega))
 clear bm55
 refine jm Z (Ba (r:=(rI .i64)) (l:=[m15.nx]) U22 I3 (by decide) Z Z Z (lV Z Z (wI ((wfw d0))) ln) fun g72_31=>jm Z (js (jbu (v := .agg #[.int .i64 15,.int .i64 m55.nx,.int .i64 0,(.slice (some ⟨g72_31,0,none⟩) 1 1),.int .i32 (Ar m52)]) Z (fun _=>by kernel_rfl)) (jfz k0 (by(try simp)<;>omega) (jkb Gj Z Z (Gf (i:=⟨15,m55.nx,0,[m15.nx],Ar m52⟩) om70 (by omega) b (by first|exact hb9|decide|omega)) (dc d2 (dc (Ae.M (m:=⟨15,m55.nx,0,[m15.nx],Ar m52⟩) (c:=(.slice (some ⟨g72_31,0,none⟩) 1 1)) d0 (wl 15) (wp w70_0) (wl 0) (wp w55_0)) dn)) (kd (kc k0 kn)) ⟨Dx om70.1 hbn,(Fd.trans om70.2)⟩ p0 fun m75 hm75 om75 bm75 ua75 qs75 w33=>?_))))
 clear bm70
 refine jn ?_
 have hst:m75=Cd b st m:=(by(try simp only[hm15,hm17,hm19,hm49,hm52,hm55,hm70,hm75] at hc1 hc5 hc6);(try simp only[hm15,hm17,hm19,hm49,hm52,hm55,hm70,hm75]);all_goals first|rfl|(simp[Cd,Bp,mem2,hc1,hc5,hc6];done)|(simp[Cd,Bp,mem2,hc1,hc5,hc6];rfl)|(unfold Cd Bp mem2;(repeat' split)<;>first|rfl|(exfalso;omega)|(simp[hc1,hc5,hc6] at *;done)|(simp_all;done)))
 exact jd0 Z (ua75,qs75) Z dn (fun _ _=>(kcb (by rw[←hst]) k0 (kcg (by rw[←hst]) k0 (kck (by rw[←hst]) k0 kn))))
 refine jsk (jx (jq (jr (jm Z (jn (jx ?_))))))
 refine jif Z (fun hc7=>?_) (fun hc7=>?_)
 refine jr (jm Z (jm Z (jm Z (jm Z (jm Z (jkb Ix Z Z (Io om52 (by omega) b (by first|exact hb9|decide|omega)) (dc d1 dn) (kd (kc k0 kn)) ⟨Dy om52.1 hbn,(Ge.trans om52.2)⟩ p1 fun m62 hm62 om62 bm62 ua62 qs62 w34=>?_))))))
 clear bm52
 refine Ba (r:=(rI .i64)) (l:=[m15.nx,sV9 m52]) U22 I3 (by decide) Z Z Z (lV Z Z (wI ((wfw d1))) (lV Z Z (wI ((wfw d0))) ln)) fun g63_36=>jm Z (js (jbu (v := .agg #[.int .i64 16,.int .i64 0,.int .i64 0,(.slice (some ⟨g63_36,0,none⟩) 2 2),.int .i32 (IntKind.i32.wrap (tVV 4 m19))]) Z (fun _=>by kernel_rfl)) (jfz k0 (by(try simp)<;>omega) (jkb Gj Z Z (Gf (i:=⟨16,0,0,[m15.nx,sV9 m52],IntKind.i32.wrap (tVV 4 m19)⟩) om62 (by omega) b (by first|exact hb9|decide|omega)) (dc d3 (dc (Ae.M (m:=⟨16,0,0,[m15.nx,sV9 m52],IntKind.i32.wrap (tVV 4 m19)⟩) (c:=(.slice (some ⟨g63_36,0,none⟩) 2 2)) d0 (wl 16) (wl 0) (wl 0) (wp (JE.wrap_wrap _ _))) dn)) (kd (kc k0 kn)) ⟨Dx om62.1 hbn,(Fd.trans om62.2)⟩ p0 fun m66 hm66 om66 bm66 ua66 qs66 w38=>?_)))
 clear bm62
 refine jn ?_
 have hst:m66=Cd b st m:=(by(try simp only[hm15,hm17,hm19,hm49,hm52,hm62,hm66] at hc1 hc5 hc7);(try simp only[hm15,hm17,hm19,hm49,hm52,hm62,hm66]);all_goals first|rfl|(simp[Cd,Bp,mem2,hc1,hc5,hc7];done)|(simp[Cd,Bp,mem2,hc1,hc5,hc7];rfl)|(unfold Cd Bp mem2;(repeat' split)<;>first|rfl|(exfalso;omega)|(simp[hc1,hc5,hc7] at *;done)|(simp_all;done)))
 exact jd0 Z (ua66,qs66) Z dn (fun _ _=>(kcb (by rw[←hst]) k0 (kcg (by rw[←hst]) k0 (kck (by rw[←hst]) k0 kn))))
 refine jr (jm Z (jm Z (jm Z (jkr E64 Z Z (Gn om52 (by omega)) (dc d1 dn) (kd (kc k0 kn)) ⟨Dw om52.1,om52.2⟩ fun m70 hm70 om70 bm70=>?_))))
 have w70_0:IntKind.i64.wrap (m52.nx)=m52.nx:=(IntWalk.i64_in _ (by omega))
 clear bm52
 refine jm Z (Ba (r:=(rI .i64)) (l:=[m15.nx]) U22 I3 (by decide) Z Z Z (lV Z Z (wI ((wfw d0))) ln) fun g72_39=>jm Z (js (jbu (v := .agg #[.int .i64 15,.int .i64 m52.nx,.int .i64 0,(.slice (some ⟨g72_39,0,none⟩) 1 1),.int .i32 (IntKind.i32.wrap (tVV 4 m19))]) Z (fun _=>by kernel_rfl)) (jfz k0 (by(try simp)<;>omega) (jkb Gj Z Z (Gf (i:=⟨15,m52.nx,0,[m15.nx],IntKind.i32.wrap (tVV 4 m19)⟩) om70 (by omega) b (by first|exact hb9|decide|omega)) (dc d2 (dc (Ae.M (m:=⟨15,m52.nx,0,[m15.nx],IntKind.i32.wrap (tVV 4 m19)⟩) (c:=(.slice (some ⟨g72_39,0,none⟩) 1 1)) d0 (wl 15) (wp w70_0) (wl 0) (wp (JE.wrap_wrap _ _))) dn)) (kd (kc k0 kn)) ⟨Dx om70.1 hbn,(Fd.trans om70.2)⟩ p0 fun m75 hm75 om75 bm75 ua75 qs75 w41=>?_))))
 clear bm70
 refine jn ?_
 have hst:m75=Cd b st m:=(by(try simp only[hm15,hm17,hm19,hm49,hm52,hm70,hm75] at hc1 hc5 hc7);(try simp only[hm15,hm17,hm19,hm49,hm52,hm70,hm75]);all_goals first|rfl|(simp[Cd,Bp,mem2,hc1,hc5,hc7];done)|(simp[Cd,Bp,mem2,hc1,hc5,hc7];rfl)|(unfold Cd Bp mem2;(repeat' split)<;>first|rfl|(exfalso;omega)|(simp[hc1,hc5,hc7] at *;done)|(simp_all;done)))
 exact jd0 Z (ua75,qs75) Z dn (fun _ _=>(kcb (by rw[←hst]) k0 (kcg (by rw[←hst]) k0 (kck (by rw[←hst]) k0 kn))))
abbrev U53:=@Tryz.underlying53
theorem A60:Ag9 Tryz.prog 60:=⟨_,Tryz.underlying60,rfl⟩
theorem Qd:Fld Tryz.prog 60 0 0:=⟨_,_,Tryz.underlying60,rfl,rfl,1,(by unfold Sz;kernel_rfl),by decide⟩
theorem Le:Fld Tryz.prog 60 1 1:=⟨_,_,Tryz.underlying60,rfl,rfl,1,(by unfold Sz;kernel_rfl),by decide⟩
theorem Ib:Fld Tryz.prog 60 2 2:=⟨_,_,Tryz.underlying60,rfl,rfl,1,(by unfold Sz;kernel_rfl),by decide⟩
theorem S0:Fld Tryz.prog 60 3 3:=⟨_,_,Tryz.underlying60,rfl,rfl,1,(by unfold Sz;kernel_rfl),by decide⟩
theorem He:Fld Tryz.prog 62 2 2:=⟨_,_,Tryz.underlying62,rfl,rfl,4,(by unfold Sz;kernel_rfl),by decide⟩
theorem Z53:Sz Tryz.prog 53 3:=by unfold Sz;kernel_rfl
theorem Z60:Sz Tryz.prog 60 4:=by unfold Sz;kernel_rfl
theorem J53:(Tryz.prog.info? 53).bind (·.zero)=some (.agg #[.int .i64 0,.int .i64 0,.int .i64 0]):=by kernel_rfl
theorem J60:(Tryz.prog.info? 60).bind (·.zero)=some (.agg #[.int .i64 0,.slice none 0 0,.slice none 0 0,.int .i32 0]):=by kernel_rfl
theorem SV{vs vb al:Value}{m:Mk}{nb c:Nat}{S:List Int}{g0:Nat}{B0 B1:Nat}{qs:List BV}(hok:okS nb c S m)(hc:c≤950000)(b:Int){a2:Value}{l:List Int}(hb9:0≤b∧b<nb):KB Tryz.prog 68 [.int .i64 b,a2] [dv (rL (rI .i64)) a2 l] g0 vs vb al S B0 B1 qs [] m (Co b l m) (.tuple #[]):=by
 refine Af (args:=[.pointer (some ⟨g0,0,none⟩),.int .i64 b,a2]) Tryz.func68 rfl rfl rfl fun w0 X=>?_
 refine cgo k1 fun w1=>?_
 have bd0:=okM.bnd hok.1
 refine cbk k2 (okM.bnd hok.1).2.2.2.2.2.2.2.1 fun hvb=>?_
 have hbn:b.toNat<nb:=by omega
 refine jq (jr (js (jbu (v := .agg #[.int .i64 0,.slice none 0 0,.slice none 0 0,.int .i32 0]) Z (fun _=>by kernel_rfl)) (Bg J60 Z fun g6=>Az k0 Z60 Z Z Z ⟨Z,Z,Z,Z,trivial⟩ (saf Z) (jn (jx (jq (jq (jr (jm Z (jdq d1 fun q2 w2=>?_))))))))))
 refine js (jln U22 d1 Z) (jn (jx (jb (jq (jr (js (Aj Z Z) (ja Z (jn (jx ?_)))))))))
 refine jif Z (fun hc1=>?_) (fun hc1=>?_)
 refine jq (jr (js (jf Qd Z) (jst k0 Z3 Z Z Z s0 (jn (jx (jq (jr (jm Z (jkr E47 Z Z (Du hok (by omega) 8 (by first|exact hb9|decide|omega)) (dc d0 dn) (kc k1 (kc k1 (kc k1 kn))) ⟨tO9 hok.1,hok.2⟩ fun m44 hm44 om44 bm44=>?_)))))))))
 have w44_0:IntKind.i64.wrap (tVV 8 m)=tVV 8 m:=(IntWalk.i64_in _ (by have h9:=@tV9 8 (by omega) m;omega))
 have tr44:=@tV9 8 (by omega) m
 clear bd0
 refine ja Z (jn (jx (jq (jr (jm Z (js (Aj Z Z) (jn (jx ?_))))))))
 refine jif Z (fun hc2=>?_) (fun hc2=>?_)
 refine jq (jr (js (jf Qd Z) (jst k3 Z3 Z Z Z s0 (jn (jx (jr (jm Z (jkr E47 Z Z (Du om44 (by omega) 200 (by first|exact hb9|decide|omega)) (dc d0 dn) (kc k1 (kc k1 (kc k1 kn))) ⟨tO9 om44.1,om44.2⟩ fun m49 hm49 om49 bm49=>?_))))))))
 have w49_0:IntKind.i64.wrap (tVV 200 m44)=tVV 200 m44:=(IntWalk.i64_in _ (by have h9:=@tV9 200 (by omega) m44;omega))
 have tr49:=@tV9 200 (by omega) m44
 clear bm44
 refine js (jco U3 U21 Z Z) (js (jf S0 Z) (jst k3 Z21 Z Z Z s3 (jn (jbn (jx (jtl 9 Bh (by kernel_rfl) (jt (jmv Z) (jt (Ad Z) (jt (jf Fe Z) (jt (jf Cq Z) (jt (jl k1 O47 Z Z) ?_)))))))))))
 refine jt (jmv Z) (jt (jla k0 A60 Z60 Z Z Z) (jt (Ha (j:=b.toNat) U47 Z62 hvb Z Z (by omega) (by omega)) (jt (jf He Z) (jtt (jbT k3 (by omega) Z60 Z Z Z Z ⟨Z,Z,Z,Z,trivial⟩ (Ay.M (m:=⟨5,[],[],IntKind.i32.wrap (tVV 200 m44)⟩) (c:=(.slice none 0 0,.slice none 0 0)) wN wN (wl 5) (wp (JE.wrap_wrap _ _))) (jkn (c:=c+2) ({ m49 with bs:=List.set m49.bs b.toNat { (ix m49.bs b.toNat) with Term:=⟨5,[],[],IntKind.i32.wrap (tVV 200 m44)⟩ } }) (kc k2 (kc k2 (kc k0 kn))) ⟨(okM.setb (d:=0) om49.1 (Nat.le_refl _)),om49.2⟩ fun ms3 hms3 oms3 bms3=>?_))))))
 clear bm49
 refine jn ?_
 have hst:ms3=Co b l m:=(by(try simp only[hm44,hm49,hms3] at hc1 hc2);(try simp only[hm44,hm49,hms3]);all_goals first|rfl|(simp[Co,setT,hc1,hc2];done)|(simp[Co,setT,hc1,hc2];rfl)|(unfold Co setT;(repeat' split)<;>first|rfl|(exfalso;omega)|(simp[hc1,hc2] at *;done)|(simp_all;done)))
 exact jd0 Z (al,List.set qs b.toNat { (ix qs b.toNat) with T:=⟨5,[],[],IntKind.i32.wrap (tVV 200 m44)⟩ }) Z dn (fun _ _=>(kcb (by rw[←hst]) k0 (kcg (by rw[←hst]) k0 (kck (by rw[←hst]) k0 kn))))
 refine jq (jr (jm Z (js (Fi Z Z) (jn (jx ?_)))))
 refine jif Z (fun hc3=>?_) (fun hc3=>?_)
 refine jr (jm Z (jm Z (jkb Ix Z Z (Io om44 (by omega) b (by first|exact hb9|decide|omega)) (dc d0 dn) (kd (kc k0 kn)) ⟨Dy om44.1 hbn,(Ge.trans om44.2)⟩ p1 fun m56 hm56 om56 bm56 ua56 qs56 w4=>?_)))
 clear bm44
 refine Ba (r:=(rI .i64)) (l:=[sV9 m44]) U22 I3 (by decide) Z Z Z (lV Z Z (wI ((wfw d0))) ln) fun g57=>js (jf Le Z) (jst k4 Z22 Z Z Z s1 (jn (jbn (jx (jtl 9 Bh (by kernel_rfl) (jt (jmv Z) (jt (Ad Z) (jt (jf Fe Z) (jt (jf Cq Z) (jt (jl k2 O47 Z Z) ?_))))))))))
 refine jt (jmv Z) (jt (jla k0 A60 Z60 Z Z Z) (jt (Ha (j:=b.toNat) U47 Z62 hvb Z Z (by omega) (by omega)) (jt (jf He Z) (jtt (jfz k1 (by(try simp)<;>omega) (jbT k3 (by omega) Z60 Z Z Z Z ⟨Z,Z,Z,Z,trivial⟩ (Ay.M (m:=⟨4,[sV9 m44],[],0⟩) (c:=((.slice (some ⟨g57,0,none⟩) 1 1),.slice none 0 0)) d0 wN (wl 4) (wl 0)) (jkn (c:=c+9) ({ m56 with bs:=List.set m56.bs b.toNat { (ix m56.bs b.toNat) with Term:=⟨4,[sV9 m44],[],0⟩ } }) (kc k2 (kc k2 (kc k0 kn))) ⟨(okM.setb (d:=0) om56.1 (Nat.le_refl _)),om56.2⟩ fun ms7 hms7 oms7 bms7=>?_)))))))
 clear bm56
 refine jn ?_
 have hst:ms7=Co b l m:=(by(try simp only[hm44,hm56,hms7] at hc1 hc2 hc3);(try simp only[hm44,hm56,hms7]);all_goals first|rfl|(simp[Co,setT,hc1,hc2,hc3];done)|(simp[Co,setT,hc1,hc2,hc3];rfl)|(unfold Co setT;(repeat' split)<;>first|rfl|(exfalso;omega)|(simp[hc1,hc2,hc3] at *;done)|(simp_all;done)))
 exact jd0 Z (ua56,List.set qs56 b.toNat { (ix qs56 b.toNat) with T:=⟨4,[sV9 m44],[],0⟩ }) Z dn (fun _ _=>(kcb (by rw[←hst]) k0 (kcg (by rw[←hst]) k0 (kck (by rw[←hst]) k0 kn))))
 refine jsk (jbn (jx (jtl 9 Bh (by kernel_rfl) (jt (jmv Z) (jt (Ad Z) (jt (jf Fe Z) (jt (jf Cq Z) (jt (jl k0 O47 Z Z) (jt (jmv Z) (jt (jla k3 A60 Z60 Z Z Z) (jt (Ha (j:=b.toNat) U47 Z62 hvb Z Z (by omega) (by omega)) ?_)))))))))))
 refine jt (jf He Z) (jtt (jbT k2 (by omega) Z60 Z Z Z Z ⟨Z,Z,Z,Z,trivial⟩ (Ay.M (m:=⟨4,[],[],0⟩) (c:=(.slice none 0 0,.slice none 0 0)) wN wN (wl 4) (wl 0)) (jkn (c:=c+1) ({ m44 with bs:=List.set m44.bs b.toNat { (ix m44.bs b.toNat) with Term:=⟨4,[],[],0⟩ } }) (kc k1 (kc k1 (kc k0 kn))) ⟨(okM.setb (d:=0) om44.1 (Nat.le_refl _)),om44.2⟩ fun ms8 hms8 oms8 bms8=>?_)))
 clear bm44
 refine jn ?_
 have hst:ms8=Co b l m:=(by(try simp only[hm44,hms8] at hc1 hc2 hc3);(try simp only[hm44,hms8]);all_goals first|rfl|(simp[Co,setT,hc1,hc2,hc3];done)|(simp[Co,setT,hc1,hc2,hc3];rfl)|(unfold Co setT;(repeat' split)<;>first|rfl|(exfalso;omega)|(simp[hc1,hc2,hc3] at *;done)|(simp_all;done)))
 exact jd0 Z (al,List.set qs b.toNat { (ix qs b.toNat) with T:=⟨4,[],[],0⟩ }) Z dn (fun _ _=>(kcb (by rw[←hst]) k0 (kcg (by rw[←hst]) k0 (kck (by rw[←hst]) k0 kn))))
 refine jq (jr (js (Aj Z Z) (ja Z (jn (jx ?_)))))
 refine jif Z (fun hc4=>?_) (fun hc4=>?_)
 refine jq (jr (js (jf Qd Z) (jst k0 Z3 Z Z Z s0 (jn (jx (jr (jm Z (js (jf Ib Z) (jst k0 Z22 Z Z w2.one s2 (jn (jbn ?_)))))))))))
 refine jx (jtl 9 Bh (by kernel_rfl) (jt (jmv Z) (jt (Ad Z) (jt (jf Fe Z) (jt (jf Cq Z) (jt (jl k1 O47 Z Z) (jt (jmv Z) (jt (jla k0 A60 Z60 Z Z Z) (jt (Ha (j:=b.toNat) U47 Z62 hvb Z Z (by omega) (by omega)) (jt (jf He Z) (jtt ?_)))))))))))
 refine jbT k3 (by omega) Z60 Z Z Z Z ⟨Z,Z,w2.one,Z,trivial⟩ (Ay.M (m:=⟨1,[],l,0⟩) (c:=(.slice none 0 0,a2)) wN d1 (wl 1) (wl 0)) (jkn (c:=c) ({ m with bs:=List.set m.bs b.toNat { (ix m.bs b.toNat) with Term:=⟨1,[],l,0⟩ } }) (kc k2 (kc k2 (kc k0 kn))) ⟨(okM.setb (d:=0) hok.1 (Nat.le_refl _)),hok.2⟩ fun ms9 hms9 oms9 bms9=>?_)
 clear bd0
 refine jn ?_
 have hst:ms9=Co b l m:=(by(try simp only[hms9] at hc1 hc4);(try simp only[hms9]);all_goals first|rfl|(simp[Co,setT,hc1,hc4];done)|(simp[Co,setT,hc1,hc4];rfl)|(unfold Co setT;(repeat' split)<;>first|rfl|(exfalso;omega)|(simp[hc1,hc4] at *;done)|(simp_all;done)))
 exact jd0 Z (al,List.set qs b.toNat { (ix qs b.toNat) with T:=⟨1,[],l,0⟩ }) Z dn (fun _ _=>(kcb (by rw[←hst]) k0 (kcg (by rw[←hst]) k0 (kck (by rw[←hst]) k0 kn))))
 refine jq (jr (js (Aj Z Z) (ja Z (jn (jx ?_)))))
 refine jif Z (fun hc5=>?_) (fun hc5=>?_)
 refine jq (jr (js (jf Qd Z) (jst k0 Z3 Z Z Z s0 (jn (jx (jq (jr (jm Z (js (jf Ib Z) (jst k0 Z22 Z Z w2.one s2 (jn ?_)))))))))))
 refine jx (jq (jr (jm Z (jm Z (jkb Ix Z Z (Io hok (by omega) b (by first|exact hb9|decide|omega)) (dc d0 dn) (kc k1 (kc k1 (kc k1 kn))) ⟨Dy hok.1 hbn,(Ge.trans hok.2)⟩ p1 fun m71 hm71 om71 bm71 ua71 qs71 w10=>?_)))))
 clear bd0
 refine ja Z (jn (jx (jq (jq (jr (jm Z (jkr E47 Z Z (Du om71 (by omega) 2 (by first|exact hb9|decide|omega)) (dc d1 dn) (kd (kc k0 kn)) ⟨tO9 om71.1,om71.2⟩ fun m73 hm73 om73 bm73=>?_)))))))
 have w73_0:IntKind.i64.wrap (tVV 2 m71)=tVV 2 m71:=(IntWalk.i64_in _ (by have h9:=@tV9 2 (by omega) m71;omega))
 have tr73:=@tV9 2 (by omega) m71
 clear bm71
 refine js (Aj Z Z) (jn (jx ?_))
 refine jif Z (fun hc6=>?_) (fun hc6=>?_)
 refine jq (jr (js (jbu (v := .agg #[.int .i64 11,.int .i64 12,.int .i64 13]) Z (fun _=>by kernel_rfl)) (Bg J53 Z fun g9=>Az k0 Z53 Z Z Z ⟨Z,Z,Z,trivial⟩ (saf Z) (jn (jx (jq (jr (jm Z (jm Z (jkb Ix Z Z (Io om73 (by omega) b (by first|exact hb9|decide|omega)) (dc d1 dn) (kc k1 (kc k1 (kc k1 kn))) ⟨Dy om73.1 hbn,(Ge.trans om73.2)⟩ p1 fun m78 hm78 om78 bm78 ua78 qs78 w12=>?_))))))))))
 clear bm73
 refine ja Z (jn (jx (jq (jr (jm Z (jkr E64 Z Z (Gn om78 (by omega)) (dc d2 dn) (kd (kc k0 kn)) ⟨Dw om78.1,om78.2⟩ fun m80 hm80 om80 bm80=>?_))))))
 have w80_0:IntKind.i64.wrap (m78.nx)=m78.nx:=(IntWalk.i64_in _ (by omega))
 clear bm78
 refine ja Z (jn (jx (jq (jr (jm Z (jm Z (jm Z (jkr E47 Z Z (Du om80 (by omega) 3 (by first|exact hb9|decide|omega)) (dc d2 dn) (kd (kc k0 kn)) ⟨tO9 om80.1,om80.2⟩ fun m84 hm84 om84 bm84=>?_))))))))
 have w84_0:IntKind.i64.wrap (tVV 3 m80)=tVV 3 m80:=(IntWalk.i64_in _ (by have h9:=@tV9 3 (by omega) m80;omega))
 have tr84:=@tV9 3 (by omega) m80
 clear bm80
 refine js (Qx (i:=(Int.toNat (tVV 3 m80))) U53 Z3 Z Z (by omega) (by omega)) (js (jli (i:=(Int.toNat (tVV 3 m80))) (l:=[11,12,13]) k3 (by show _<3;omega) (by omega) O3 Z) (jm Z (jm Z (jm Z (Ba (r:=(rI .i64)) (l:=[sV9 m,sV9 m73]) U22 I3 (by decide) Z Z Z (lV Z Z (wI ((wfw d1))) (lV Z Z (wI ((wfw d0))) ln)) fun g90=>js (jbu (v := .agg #[.int .i64 (ix [11,12,13] (Int.toNat (tVV 3 m80))),.int .i64 m78.nx,.int .i64 0,(.slice (some ⟨g90,0,none⟩) 2 2),.int .i32 0]) Z (fun _=>by kernel_rfl)) (jfz k0 (by(try simp)<;>omega) (jkb Gj Z Z (Gf (i:=⟨ix [11,12,13] (Int.toNat (tVV 3 m80)),m78.nx,0,[sV9 m,sV9 m73],0⟩) om84 (by omega) b (by first|exact hb9|decide|omega)) (dc d3 (dc (Ae.M (m:=⟨ix [11,12,13] (Int.toNat (tVV 3 m80)),m78.nx,0,[sV9 m,sV9 m73],0⟩) (c:=(.slice (some ⟨g90,0,none⟩) 2 2)) d0 (wp (Vr (l:=[11,12,13]) (by decide) (by decide) (Int.toNat (tVV 3 m80)))) (wp w80_0) (wl 0) (wl 0)) dn)) (kd (kc k0 kn)) ⟨Dx om84.1 hbn,(Fd.trans om84.2)⟩ p0 fun m92 hm92 om92 bm92 ua92 qs92 w15=>?_)))))))
 clear bm84
 refine jn (jx (jr (jm Z (ja Z (jn (jx (jr (jm Z (Ba (r:=(rI .i64)) (l:=[m78.nx]) U22 I3 (by decide) Z Z Z (lV Z Z (wI (wp w80_0)) ln) fun g95=>js (jf Le Z) (jst k5 Z22 Z Z Z s1 ?_))))))))))
 refine jn (jbn (jx (jtl 9 Bh (by kernel_rfl) (jt (jmv Z) (jt (Ad Z) (jt (jf Fe Z) (jt (jf Cq Z) (jt (jl k2 O47 Z Z) (jt (jmv Z) (jt (jla k0 A60 Z60 Z Z Z) (jt (Ha (j:=b.toNat) U47 Z62 hvb Z Z (by omega) (by omega)) ?_)))))))))))
 refine jt (jf He Z) (jtt (jfz k1 (by(try simp)<;>omega) (jbT k3 (by omega) Z60 Z Z Z Z ⟨Z,Z,w2.one,Z,trivial⟩ (Ay.M (m:=⟨2,[m78.nx],l,0⟩) (c:=((.slice (some ⟨g95,0,none⟩) 1 1),a2)) d0 d5 (wl 2) (wl 0)) (jkn (c:=c+21) ({ m92 with bs:=List.set m92.bs b.toNat { (ix m92.bs b.toNat) with Term:=⟨2,[m78.nx],l,0⟩ } }) (kc k2 (kc k2 (kc k0 kn))) ⟨(okM.setb (d:=0) om92.1 (Nat.le_refl _)),om92.2⟩ fun ms17 hms17 oms17 bms17=>?_))))
 clear bm92
 refine jn ?_
 have hst:ms17=Co b l m:=(by(try simp only[hm71,hm73,hm78,hm80,hm84,hm92,hms17] at hc1 hc4 hc5 hc6);(try simp only[hm71,hm73,hm78,hm80,hm84,hm92,hms17]);all_goals first|rfl|(simp[Co,setT,hc1,hc4,hc5,hc6];done)|(simp[Co,setT,hc1,hc4,hc5,hc6];rfl)|(unfold Co setT;(repeat' split)<;>first|rfl|(exfalso;omega)|(simp[hc1,hc4,hc5,hc6] at *;done)|(simp_all;done)))
 exact jd0 Z (ua92,List.set qs92 b.toNat { (ix qs92 b.toNat) with T:=⟨2,[m78.nx],l,0⟩ }) Z dn (fun _ _=>(kcb (by rw[←hst]) k0 (kcg (by rw[←hst]) k0 (kck (by rw[←hst]) k0 kn))))
 refine jsk (jx (jr (jm Z (Ba (r:=(rI .i64)) (l:=[sV9 m]) U22 I3 (by decide) Z Z Z (lV Z Z (wI ((wfw d0))) ln) fun g95_18=>js (jf Le Z) (jst k4 Z22 Z Z Z s1 (jn (jbn (jx (jtl 9 Bh (by kernel_rfl) (jt (jmv Z) ?_))))))))))
 refine jt (Ad Z) (jt (jf Fe Z) (jt (jf Cq Z) (jt (jl k2 O47 Z Z) (jt (jmv Z) (jt (jla k0 A60 Z60 Z Z Z) (jt (Ha (j:=b.toNat) U47 Z62 hvb Z Z (by omega) (by omega)) (jt (jf He Z) (jtt (jfz k1 (by(try simp)<;>omega) (jbT k3 (by omega) Z60 Z Z Z Z ⟨Z,Z,w2.one,Z,trivial⟩ (Ay.M (m:=⟨2,[sV9 m],l,0⟩) (c:=((.slice (some ⟨g95_18,0,none⟩) 1 1),a2)) d0 d3 (wl 2) (wl 0)) (jkn (c:=c+9) ({ m73 with bs:=List.set m73.bs b.toNat { (ix m73.bs b.toNat) with Term:=⟨2,[sV9 m],l,0⟩ } }) (kc k2 (kc k2 (kc k0 kn))) ⟨(okM.setb (d:=0) om73.1 (Nat.le_refl _)),om73.2⟩ fun ms20 hms20 oms20 bms20=>?_)))))))))))
 clear bm73
 refine jn ?_
 have hst:ms20=Co b l m:=(by(try simp only[hm71,hm73,hms20] at hc1 hc4 hc5 hc6);(try simp only[hm71,hm73,hms20]);all_goals first|rfl|(simp[Co,setT,hc1,hc4,hc5,hc6];done)|(simp[Co,setT,hc1,hc4,hc5,hc6];rfl)|(unfold Co setT;(repeat' split)<;>first|rfl|(exfalso;omega)|(simp[hc1,hc4,hc5,hc6] at *;done)|(simp_all;done)))
 exact jd0 Z (ua71,List.set qs71 b.toNat { (ix qs71 b.toNat) with T:=⟨2,[sV9 m],l,0⟩ }) Z dn (fun _ _=>(kcb (by rw[←hst]) k0 (kcg (by rw[←hst]) k0 (kck (by rw[←hst]) k0 kn))))
 refine jq (jr (js (jf Qd Z) (jst k0 Z3 Z Z Z s0 (jn (jx (jq (jr (jm Z (js (jf Ib Z) (jst k0 Z22 Z Z w2.one s2 (jn ?_)))))))))))
 refine jx (jq (jr (jm Z (jm Z (jkb Ix Z Z (Io hok (by omega) b (by first|exact hb9|decide|omega)) (dc d0 dn) (kc k1 (kc k1 (kc k1 kn))) ⟨Dy hok.1 hbn,(Ge.trans hok.2)⟩ p1 fun m23 hm23 om23 bm23 ua23 qs23 w21=>?_)))))
 clear bd0
 refine ja Z (jn (jx (jq (jr (jm Z (jm Z (jkb E70 Z Z (Oq om23 (by omega) b 7 (by first|exact hb9|decide|omega) (by decide)) (dc d1 dn) (kd (kc k0 kn)) ⟨Hc om23.1 hbn,(Mc.trans om23.2)⟩ p1 fun m26 hm26 om26 bm26 ua26 qs26 w23=>?_)))))))
 clear bm23
 refine ja Z (jn (jx (jq (jr (jm Z (jkr E64 Z Z (Gn om26 (by omega)) (dc d2 dn) (kd (kc k0 kn)) ⟨Dw om26.1,om26.2⟩ fun m28 hm28 om28 bm28=>?_))))))
 have w28_0:IntKind.i64.wrap (m26.nx)=m26.nx:=(IntWalk.i64_in _ (by omega))
 clear bm26
 refine ja Z (jn (jx (jq (jr (jm Z (jm Z (jm Z (jm Z (jm Z (Ba (r:=(rI .i64)) (l:=[sV9 m,m23.nx]) U22 I3 (by decide) Z Z Z (lV Z Z (wI ((wfw d1))) (lV Z Z (wI ((wfw d0))) ln)) fun g34=>js (jbu (v := .agg #[.int .i64 5,.int .i64 m26.nx,.int .i64 0,(.slice (some ⟨g34,0,none⟩) 2 2),.int .i32 0]) Z (fun _=>by kernel_rfl)) ?_))))))))))
 refine jfz k0 (by(try simp)<;>omega) (jkb Gj Z Z (Gf (i:=⟨5,m26.nx,0,[sV9 m,m23.nx],0⟩) om28 (by omega) b (by first|exact hb9|decide|omega)) (dc d3 (dc (Ae.M (m:=⟨5,m26.nx,0,[sV9 m,m23.nx],0⟩) (c:=(.slice (some ⟨g34,0,none⟩) 2 2)) d0 (wl 5) (wp w28_0) (wl 0) (wl 0)) dn)) (kd (kc k0 kn)) ⟨Dx om28.1 hbn,(Fd.trans om28.2)⟩ p0 fun m36 hm36 om36 bm36 ua36 qs36 w26=>?_)
 clear bm28
 refine jn (jx (jr (jm Z (Ba (r:=(rI .i64)) (l:=[m26.nx]) U22 I3 (by decide) Z Z Z (lV Z Z (wI (wp w28_0)) ln) fun g38=>js (jf Le Z) (jst k4 Z22 Z Z Z s1 (jn (jbn (jx (jtl 9 Bh (by kernel_rfl) (jt (jmv Z) ?_))))))))))
 refine jt (Ad Z) (jt (jf Fe Z) (jt (jf Cq Z) (jt (jl k2 O47 Z Z) (jt (jmv Z) (jt (jla k0 A60 Z60 Z Z Z) (jt (Ha (j:=b.toNat) U47 Z62 hvb Z Z (by omega) (by omega)) (jt (jf He Z) (jtt (jfz k1 (by(try simp)<;>omega) (jbT k3 (by omega) Z60 Z Z Z Z ⟨Z,Z,w2.one,Z,trivial⟩ (Ay.M (m:=⟨3,[m26.nx],l,0⟩) (c:=((.slice (some ⟨g38,0,none⟩) 1 1),a2)) d0 d5 (wl 3) (wl 0)) (jkn (c:=c+14) ({ m36 with bs:=List.set m36.bs b.toNat { (ix m36.bs b.toNat) with Term:=⟨3,[m26.nx],l,0⟩ } }) (kc k2 (kc k2 (kc k0 kn))) ⟨(okM.setb (d:=0) om36.1 (Nat.le_refl _)),om36.2⟩ fun ms28 hms28 oms28 bms28=>?_)))))))))))
 clear bm36
 refine jn ?_
 have hst:ms28=Co b l m:=(by(try simp only[hm23,hm26,hm28,hm36,hms28] at hc1 hc4 hc5);(try simp only[hm23,hm26,hm28,hm36,hms28]);all_goals first|rfl|(simp[Co,setT,hc1,hc4,hc5];done)|(simp[Co,setT,hc1,hc4,hc5];rfl)|(unfold Co setT;(repeat' split)<;>first|rfl|(exfalso;omega)|(simp[hc1,hc4,hc5] at *;done)|(simp_all;done)))
 exact jd0 Z (ua36,List.set qs36 b.toNat { (ix qs36 b.toNat) with T:=⟨3,[m26.nx],l,0⟩ }) Z dn (fun _ _=>(kcb (by rw[←hst]) k0 (kcg (by rw[←hst]) k0 (kck (by rw[←hst]) k0 kn))))
abbrev IJ:=@Tryz.underlying181
theorem Aa2:Ent Tryz.prog 121:=⟨_,Tryz.func121,by kernel_rfl,by kernel_rfl⟩
theorem j2:Sz Tryz.prog 181 12:=by unfold Sz;kernel_rfl
theorem j7:(Tryz.prog.info? 181).bind (·.zero)=some (.agg #[.int .i64 0,.int .i64 0,.int .i64 0,.int .i64 0,.int .i64 0,.int .i64 0,.int .i64 0,.int .i64 0,.int .i64 0,.int .i64 0,.int .i64 0,.int .i64 0]):=by kernel_rfl
theorem SU{vs vb al:Value}{m:Mk}{nb c:Nat}{S:List Int}{g0:Nat}{B0 B1:Nat}{qs:List BV}(hok:okS nb c S m)(hc:c≤900000)(b:Int)(hb9:0≤b∧b<nb):KB Tryz.prog 67 [.int .i64 b] [] g0 vs vb al S B0 B1 qs [] m (Ce b m) (.tuple #[]):=by
 refine Af (args:=[.pointer (some ⟨g0,0,none⟩),.int .i64 b]) Tryz.func67 rfl rfl rfl fun w0 X=>?_
 refine cgo k1 fun w1=>?_
 have bd0:=okM.bnd hok.1
 refine cbk k2 (okM.bnd hok.1).2.2.2.2.2.2.2.1 fun hvb=>?_
 have hbn:b.toNat<nb:=by omega
 refine jq (jr (jm Z (jkr E47 Z Z (Du hok (by omega) 20 (by first|exact hb9|decide|omega)) (dc d0 dn) (kd (kc k0 kn)) ⟨tO9 hok.1,hok.2⟩ fun m19 hm19 om19 bm19=>?_)))
 have w19_0:IntKind.i64.wrap (tVV 20 m)=tVV 20 m:=(IntWalk.i64_in _ (by have h9:=@tV9 20 (by omega) m;omega))
 have tr19:=@tV9 20 (by omega) m
 clear bd0
 refine ja Z (jn (jx (jb (jq (jr (jm Z (js (Ai Z Z) (ja Z (jn (jx ?_))))))))))
 refine jif Z (fun hc1=>?_) (fun hc1=>?_)
 refine jq (jr (js (jbu (v := .agg #[.int .i64 2,.int .i64 2,.int .i64 3,.int .i64 4,.int .i64 5,.int .i64 6,.int .i64 7,.int .i64 8,.int .i64 9,.int .i64 10,.int .i64 12,.int .i64 11]) Z (fun _=>by kernel_rfl)) (Bg j7 Z fun g5=>Az k0 j2 Z Z Z ⟨Z,Z,Z,Z,Z,Z,Z,Z,Z,Z,Z,Z,trivial⟩ (saf Z) (jn (jx (jq (jr (jm Z (jm Z (jkb Ix Z Z (Io om19 (by omega) b (by first|exact hb9|decide|omega)) (dc d0 dn) (kc k1 (kc k1 (kc k1 kn))) ⟨Dy om19.1 hbn,(Ge.trans om19.2)⟩ p1 fun m31 hm31 om31 bm31 ua31 qs31 w2=>?_))))))))))
 clear bm19
 refine ja Z (jn (jx (jq (jr (jm Z (jm Z (jkb Ix Z Z (Io om31 (by omega) b (by first|exact hb9|decide|omega)) (dc d1 dn) (kd (kc k0 kn)) ⟨Dy om31.1 hbn,(Ge.trans om31.2)⟩ p1 fun m34 hm34 om34 bm34 ua34 qs34 w4=>?_)))))))
 clear bm31
 refine ja Z (jn (jx (jq (jq (jr (jm Z (jkr E47 Z Z (Du om34 (by omega) 3 (by first|exact hb9|decide|omega)) (dc d2 dn) (kd (kc k0 kn)) ⟨tO9 om34.1,om34.2⟩ fun m36 hm36 om36 bm36=>?_)))))))
 have w36_0:IntKind.i64.wrap (tVV 3 m34)=tVV 3 m34:=(IntWalk.i64_in _ (by have h9:=@tV9 3 (by omega) m34;omega))
 have tr36:=@tV9 3 (by omega) m34
 clear bm34
 refine js (Aj Z Z) (jn (jx ?_))
 refine jif Z (fun hc2=>?_) (fun hc2=>?_)
 refine jr (jm Z (jm Z (jm Z (jkr E47 Z Z (Du om36 (by omega) 40 (by first|exact hb9|decide|omega)) (dc d2 dn) (kd (kc k0 kn)) ⟨tO9 om36.1,om36.2⟩ fun m41 hm41 om41 bm41=>?_))))
 have w41_0:IntKind.i64.wrap (tVV 40 m36)=tVV 40 m36:=(IntWalk.i64_in _ (by have h9:=@tV9 40 (by omega) m36;omega))
 have tr41:=@tV9 40 (by omega) m36
 clear bm36
 refine js (Gg Z Z (by omega)) (js (jco U3 U21 Z Z) (jkb E70 Z Z (Oq om41 (by omega) b (IntKind.i32.wrap ((tVV 40 m36)-8)) (by first|exact hb9|decide|omega) (JE.wrap_wrap _ _)) (dc d2 dn) (kd (kc k0 kn)) ⟨Hc om41.1 hbn,(Mc.trans om41.2)⟩ p1 fun m44 hm44 om44 bm44 ua44 qs44 w6=>?_))
 clear bm41
 refine ja Z (jn (jx (Cp true (.a 0 (.a 1 (.a 2 (.a 3 (.a 4 (.a 5 (.a 7 (.a 8 (.w 6 9 (.o 9 (.a 10 (.o 11 .e))) (.o 6 (.a 10 (.o 11 .e)))))))))))) Bh (by kernel_rfl) (kc k3 kn) fun F8=>jy Z (jmv Z) (jy Z (jmv Z) (jy Z (jmv Z) (jy Z (Qx (i:=(Int.toNat (tVV 20 m))) IJ Z3 Z Z (by omega) (by omega)) (jy Z (jli (i:=(Int.toNat (tVV 20 m))) (l:=[2,2,3,4,5,6,7,8,9,10,12,11]) k0 (by show _<12;omega) (by omega) O3 Z) (jy Z (jmv Z) (jy Z (jmv Z) (jy Z (jmv Z) ?_))))))))))
 refine jyw Z Z ?_ ?_
 refine jkr E64 Z Z (Gn om44 (by omega)) (dc d4 dn) (kd (kc k0 kn)) ⟨Dw om44.1,om44.2⟩ fun m51 hm51 om51 bm51=>?_
 have w51_0:IntKind.i64.wrap (m44.nx)=m44.nx:=(IntWalk.i64_in _ (by omega))
 clear bm44
 refine jyn d0 (kc k3 kn) (jyo Z (Ba (r:=(rI .i64)) (l:=[sV9 m19,m41.nx]) U22 I3 (by decide) Z Z Z (lV Z Z (wI ((wfw d4))) (lV Z Z (wI ((wfw d2))) ln)) fun g54=>jyn d0 (kc k4 kn) (jy Z (jbu (v := .agg #[.int .i64 (ix [2,2,3,4,5,6,7,8,9,10,12,11] (Int.toNat (tVV 20 m))),.int .i64 m44.nx,.int .i64 0,(.slice (some ⟨g54,0,none⟩) 2 2),.int .i32 0]) Z (fun _=>by kernel_rfl)) (jyo Z (jfz k0 (by(try simp)<;>omega) (jkb Gj Z Z (Gf (i:=⟨ix [2,2,3,4,5,6,7,8,9,10,12,11] (Int.toNat (tVV 20 m)),m44.nx,0,[sV9 m19,m41.nx],0⟩) om51 (by omega) b (by first|exact hb9|decide|omega)) (dc d7 (dc (Ae.M (m:=⟨ix [2,2,3,4,5,6,7,8,9,10,12,11] (Int.toNat (tVV 20 m)),m44.nx,0,[sV9 m19,m41.nx],0⟩) (c:=(.slice (some ⟨g54,0,none⟩) 2 2)) d0 (wp (Vr (l:=[2,2,3,4,5,6,7,8,9,10,12,11]) (by decide) (by decide) (Int.toNat (tVV 20 m)))) (wp w51_0) (wl 0) (wl 0)) dn)) (kd (kc k0 kn)) ⟨Dx om51.1 hbn,(Fd.trans om51.2)⟩ p0 fun m56 hm56 om56 bm56 ua56 qs56 w13=>?_))))))
 clear bm51
 refine jyz d1 (jyd (jbn ?_))
 have hst:m56=Ce b m:=(by(try simp only[hm19,hm31,hm34,hm36,hm41,hm44,hm51,hm56] at hc1 hc2);(try simp only[hm19,hm31,hm34,hm36,hm41,hm44,hm51,hm56]);all_goals first|rfl|(simp[Ce,hc1,hc2];done)|(simp[Ce,hc1,hc2];rfl))
 exact jd0 Z (ua56,qs56) Z dn (fun _ _=>(kcb (by rw[←hst]) k0 (kcg (by rw[←hst]) k0 (kck (by rw[←hst]) k0 kn))))
 refine Ba (r:=(rI .i64)) (l:=[sV9 m19,m41.nx]) U22 I3 (by decide) Z Z Z (lV Z Z (wI ((wfw d3))) (lV Z Z (wI ((wfw d1))) ln)) fun g54=>jyn d0 (kc k4 kn) (jyo Z (jkr E64 Z Z (Gn om44 (by omega)) (dc d5 dn) (kc k1 (kc k1 (kc k1 kn))) ⟨Dw om44.1,om44.2⟩ fun m51 hm51 om51 bm51=>?_))
 have w51_0:IntKind.i64.wrap (m44.nx)=m44.nx:=(IntWalk.i64_in _ (by omega))
 clear bm44
 refine jyn d0 (kc k4 kn) (jy Z (jbu (v := .agg #[.int .i64 (ix [2,2,3,4,5,6,7,8,9,10,12,11] (Int.toNat (tVV 20 m))),.int .i64 m44.nx,.int .i64 0,(.slice (some ⟨g54,0,none⟩) 2 2),.int .i32 0]) Z (fun _=>by kernel_rfl)) (jyo Z (jfz k3 (by(try simp)<;>omega) (jkb Gj Z Z (Gf (i:=⟨ix [2,2,3,4,5,6,7,8,9,10,12,11] (Int.toNat (tVV 20 m)),m44.nx,0,[sV9 m19,m41.nx],0⟩) om51 (by omega) b (by first|exact hb9|decide|omega)) (dc d7 (dc (Ae.M (m:=⟨ix [2,2,3,4,5,6,7,8,9,10,12,11] (Int.toNat (tVV 20 m)),m44.nx,0,[sV9 m19,m41.nx],0⟩) (c:=(.slice (some ⟨g54,0,none⟩) 2 2)) d0 (wp (Vr (l:=[2,2,3,4,5,6,7,8,9,10,12,11]) (by decide) (by decide) (Int.toNat (tVV 20 m)))) (wp w51_0) (wl 0) (wl 0)) dn)) (kd (kc k0 kn)) ⟨Dx om51.1 hbn,(Fd.trans om51.2)⟩ p0 fun m56 hm56 om56 bm56 ua56 qs56 w13=>?_))))
 clear bm51
 refine jyz d1 (jyd (jbn ?_))
 have hst:m56=Ce b m:=(by(try simp only[hm19,hm31,hm34,hm36,hm41,hm44,hm51,hm56] at hc1 hc2);(try simp only[hm19,hm31,hm34,hm36,hm41,hm44,hm51,hm56]);all_goals first|rfl|(simp[Ce,hc1,hc2];done)|(simp[Ce,hc1,hc2];rfl))
 exact jd0 Z (ua56,qs56) Z dn (fun _ _=>(kcb (by rw[←hst]) k0 (kcg (by rw[←hst]) k0 (kck (by rw[←hst]) k0 kn))))
 refine jsk (jx (Cp true (.a 0 (.a 1 (.a 2 (.a 3 (.a 4 (.a 5 (.a 7 (.a 8 (.w 6 9 (.o 9 (.a 10 (.o 11 .e))) (.o 6 (.a 10 (.o 11 .e)))))))))))) Bh (by kernel_rfl) (kc k3 kn) fun F14=>jy Z (jmv Z) (jy Z (jmv Z) (jy Z (jmv Z) (jy Z (Qx (i:=(Int.toNat (tVV 20 m))) IJ Z3 Z Z (by omega) (by omega)) (jy Z (jli (i:=(Int.toNat (tVV 20 m))) (l:=[2,2,3,4,5,6,7,8,9,10,12,11]) k0 (by show _<12;omega) (by omega) O3 Z) (jy Z (jmv Z) (jy Z (jmv Z) (jy Z (jmv Z) ?_)))))))))
 refine jyw Z Z ?_ ?_
 refine jkr E64 Z Z (Gn om36 (by omega)) (dc d3 dn) (kd (kc k0 kn)) ⟨Dw om36.1,om36.2⟩ fun m51 hm51 om51 bm51=>?_
 have w51_0:IntKind.i64.wrap (m36.nx)=m36.nx:=(IntWalk.i64_in _ (by omega))
 clear bm36
 refine jyn d0 (kc k3 kn) (jyo Z (Ba (r:=(rI .i64)) (l:=[sV9 m19,sV9 m31]) U22 I3 (by decide) Z Z Z (lV Z Z (wI ((wfw d3))) (lV Z Z (wI ((wfw d2))) ln)) fun g54_17=>jyn d0 (kc k4 kn) (jy Z (jbu (v := .agg #[.int .i64 (ix [2,2,3,4,5,6,7,8,9,10,12,11] (Int.toNat (tVV 20 m))),.int .i64 m36.nx,.int .i64 0,(.slice (some ⟨g54_17,0,none⟩) 2 2),.int .i32 0]) Z (fun _=>by kernel_rfl)) (jyo Z (jfz k0 (by(try simp)<;>omega) (jkb Gj Z Z (Gf (i:=⟨ix [2,2,3,4,5,6,7,8,9,10,12,11] (Int.toNat (tVV 20 m)),m36.nx,0,[sV9 m19,sV9 m31],0⟩) om51 (by omega) b (by first|exact hb9|decide|omega)) (dc d6 (dc (Ae.M (m:=⟨ix [2,2,3,4,5,6,7,8,9,10,12,11] (Int.toNat (tVV 20 m)),m36.nx,0,[sV9 m19,sV9 m31],0⟩) (c:=(.slice (some ⟨g54_17,0,none⟩) 2 2)) d0 (wp (Vr (l:=[2,2,3,4,5,6,7,8,9,10,12,11]) (by decide) (by decide) (Int.toNat (tVV 20 m)))) (wp w51_0) (wl 0) (wl 0)) dn)) (kd (kc k0 kn)) ⟨Dx om51.1 hbn,(Fd.trans om51.2)⟩ p0 fun m56 hm56 om56 bm56 ua56 qs56 w20=>?_))))))
 clear bm51
 refine jyz d1 (jyd (jbn ?_))
 have hst:m56=Ce b m:=(by(try simp only[hm19,hm31,hm34,hm36,hm51,hm56] at hc1 hc2);(try simp only[hm19,hm31,hm34,hm36,hm51,hm56]);all_goals first|rfl|(simp[Ce,hc1,hc2];done)|(simp[Ce,hc1,hc2];rfl))
 exact jd0 Z (ua56,qs56) Z dn (fun _ _=>(kcb (by rw[←hst]) k0 (kcg (by rw[←hst]) k0 (kck (by rw[←hst]) k0 kn))))
 refine Ba (r:=(rI .i64)) (l:=[sV9 m19,sV9 m31]) U22 I3 (by decide) Z Z Z (lV Z Z (wI ((wfw d2))) (lV Z Z (wI ((wfw d1))) ln)) fun g54_16=>jyn d0 (kc k4 kn) (jyo Z (jkr E64 Z Z (Gn om36 (by omega)) (dc d4 dn) (kc k1 (kc k1 (kc k1 kn))) ⟨Dw om36.1,om36.2⟩ fun m51 hm51 om51 bm51=>?_))
 have w51_0:IntKind.i64.wrap (m36.nx)=m36.nx:=(IntWalk.i64_in _ (by omega))
 clear bm36
 refine jyn d0 (kc k4 kn) (jy Z (jbu (v := .agg #[.int .i64 (ix [2,2,3,4,5,6,7,8,9,10,12,11] (Int.toNat (tVV 20 m))),.int .i64 m36.nx,.int .i64 0,(.slice (some ⟨g54_16,0,none⟩) 2 2),.int .i32 0]) Z (fun _=>by kernel_rfl)) (jyo Z (jfz k3 (by(try simp)<;>omega) (jkb Gj Z Z (Gf (i:=⟨ix [2,2,3,4,5,6,7,8,9,10,12,11] (Int.toNat (tVV 20 m)),m36.nx,0,[sV9 m19,sV9 m31],0⟩) om51 (by omega) b (by first|exact hb9|decide|omega)) (dc d6 (dc (Ae.M (m:=⟨ix [2,2,3,4,5,6,7,8,9,10,12,11] (Int.toNat (tVV 20 m)),m36.nx,0,[sV9 m19,sV9 m31],0⟩) (c:=(.slice (some ⟨g54_16,0,none⟩) 2 2)) d0 (wp (Vr (l:=[2,2,3,4,5,6,7,8,9,10,12,11]) (by decide) (by decide) (Int.toNat (tVV 20 m)))) (wp w51_0) (wl 0) (wl 0)) dn)) (kd (kc k0 kn)) ⟨Dx om51.1 hbn,(Fd.trans om51.2)⟩ p0 fun m56 hm56 om56 bm56 ua56 qs56 w20=>?_))))
 clear bm51
 refine jyz d1 (jyd (jbn ?_))
 have hst:m56=Ce b m:=(by(try simp only[hm19,hm31,hm34,hm36,hm51,hm56] at hc1 hc2);(try simp only[hm19,hm31,hm34,hm36,hm51,hm56]);all_goals first|rfl|(simp[Ce,hc1,hc2];done)|(simp[Ce,hc1,hc2];rfl))
 exact jd0 Z (ua56,qs56) Z dn (fun _ _=>(kcb (by rw[←hst]) k0 (kcg (by rw[←hst]) k0 (kck (by rw[←hst]) k0 kn))))
 refine jq (jr (jm Z (js (Aj Z Z) (ja Z (jn (jx ?_))))))
 refine jif Z (fun hc3=>?_) (fun hc3=>?_)
 refine jq (jr (jm Z (jm Z (jkb Ix Z Z (Io om19 (by omega) b (by first|exact hb9|decide|omega)) (dc d0 dn) (kd (kc k0 kn)) ⟨Dy om19.1 hbn,(Ge.trans om19.2)⟩ p1 fun m62 hm62 om62 bm62 ua62 qs62 w21=>?_))))
 clear bm19
 refine ja Z (jn (jx (jq (jr (jm Z (jm Z (jkb Ix Z Z (Io om62 (by omega) b (by first|exact hb9|decide|omega)) (dc d1 dn) (kd (kc k0 kn)) ⟨Dy om62.1 hbn,(Ge.trans om62.2)⟩ p1 fun m65 hm65 om65 bm65 ua65 qs65 w23=>?_)))))))
 clear bm62
 refine ja Z (jn (jx (jr (jm Z (jm Z (jm Z (jkr E64 Z Z (Gn om65 (by omega)) (dc d2 dn) (kd (kc k0 kn)) ⟨Dw om65.1,om65.2⟩ fun m69 hm69 om69 bm69=>?_)))))))
 have w69_0:IntKind.i64.wrap (m65.nx)=m65.nx:=(IntWalk.i64_in _ (by omega))
 clear bm65
 refine jm Z (jm Z (Ba (r:=(rI .i64)) (l:=[sV9 m19,sV9 m62]) U22 I3 (by decide) Z Z Z (lV Z Z (wI ((wfw d1))) (lV Z Z (wI ((wfw d0))) ln)) fun g72=>js (jbu (v := .agg #[.int .i64 13,.int .i64 m65.nx,.int .i64 0,(.slice (some ⟨g72,0,none⟩) 2 2),.int .i32 0]) Z (fun _=>by kernel_rfl)) (jfz k0 (by(try simp)<;>omega) (jkb Gj Z Z (Gf (i:=⟨13,m65.nx,0,[sV9 m19,sV9 m62],0⟩) om69 (by omega) b (by first|exact hb9|decide|omega)) (dc d3 (dc (Ae.M (m:=⟨13,m65.nx,0,[sV9 m19,sV9 m62],0⟩) (c:=(.slice (some ⟨g72,0,none⟩) 2 2)) d0 (wl 13) (wp w69_0) (wl 0) (wl 0)) dn)) (kd (kc k0 kn)) ⟨Dx om69.1 hbn,(Fd.trans om69.2)⟩ p0 fun m74 hm74 om74 bm74 ua74 qs74 w26=>?_))))
 clear bm69
 refine jn (jbn ?_)
 have hst:m74=Ce b m:=(by(try simp only[hm19,hm62,hm65,hm69,hm74] at hc1 hc3);(try simp only[hm19,hm62,hm65,hm69,hm74]);all_goals first|rfl|(simp[Ce,hc1,hc3];done)|(simp[Ce,hc1,hc3];rfl))
 exact jd0 Z (ua74,qs74) Z dn (fun _ _=>(kcb (by rw[←hst]) k0 (kcg (by rw[←hst]) k0 (kck (by rw[←hst]) k0 kn))))
 refine jq (jr (jm Z (js (Aj Z Z) (ja Z (jn (jx ?_))))))
 refine jif Z (fun hc4=>?_) (fun hc4=>?_)
 refine jq (jr (jm Z (jm Z (jkb Ix Z Z (Io om19 (by omega) b (by first|exact hb9|decide|omega)) (dc d0 dn) (kd (kc k0 kn)) ⟨Dy om19.1 hbn,(Ge.trans om19.2)⟩ p1 fun m80 hm80 om80 bm80 ua80 qs80 w27=>?_))))
 clear bm19
 refine ja Z (jn (jx (jq (jr (jm Z (jm Z (jm Z (jkr E47 Z Z (Du om80 (by omega) 12 (by first|exact hb9|decide|omega)) (dc d1 dn) (kd (kc k0 kn)) ⟨tO9 om80.1,om80.2⟩ fun m84 hm84 om84 bm84=>?_))))))))
 have w84_0:IntKind.i64.wrap (tVV 12 m80)=tVV 12 m80:=(IntWalk.i64_in _ (by have h9:=@tV9 12 (by omega) m80;omega))
 have tr84:=@tV9 12 (by omega) m80
 clear bm80
 refine js (jco U3 U21 Z Z) (jkb E70 Z Z (Oq om84 (by omega) b (IntKind.i32.wrap (tVV 12 m80)) (by first|exact hb9|decide|omega) (JE.wrap_wrap _ _)) (dc d1 dn) (kd (kc k0 kn)) ⟨Hc om84.1 hbn,(Mc.trans om84.2)⟩ p1 fun m86 hm86 om86 bm86 ua86 qs86 w29=>?_)
 clear bm84
 refine ja Z (jn (jx (jq (jq (jr (jm Z (jkr E47 Z Z (Du om86 (by omega) 3 (by first|exact hb9|decide|omega)) (dc d2 dn) (kd (kc k0 kn)) ⟨tO9 om86.1,om86.2⟩ fun m88 hm88 om88 bm88=>?_)))))))
 have w88_0:IntKind.i64.wrap (tVV 3 m86)=tVV 3 m86:=(IntWalk.i64_in _ (by have h9:=@tV9 3 (by omega) m86;omega))
 have tr88:=@tV9 3 (by omega) m86
 clear bm86
 refine js (Fi Z Z) (jn (jx ?_))
 refine jif Z (fun hc5=>?_) (fun hc5=>?_)
 refine jr (jm Z (jm Z (jm Z (jkr E47 Z Z (Du om88 (by omega) 12 (by first|exact hb9|decide|omega)) (dc d2 dn) (kd (kc k0 kn)) ⟨tO9 om88.1,om88.2⟩ fun m93 hm93 om93 bm93=>?_))))
 have w93_0:IntKind.i64.wrap (tVV 12 m88)=tVV 12 m88:=(IntWalk.i64_in _ (by have h9:=@tV9 12 (by omega) m88;omega))
 have tr93:=@tV9 12 (by omega) m88
 clear bm88
 refine js (jco U3 U21 Z Z) (js (Ov Z Z) (jkb E70 Z Z (Oq om93 (by omega) b (IntKind.i32.wrap (1+(IntKind.i32.wrap (tVV 12 m88)))) (by first|exact hb9|decide|omega) (JE.wrap_wrap _ _)) (dc d2 dn) (kd (kc k0 kn)) ⟨Hc om93.1 hbn,(Mc.trans om93.2)⟩ p1 fun m96 hm96 om96 bm96 ua96 qs96 w31=>?_))
 clear bm93
 refine ja Z (jn (jx (jr (jm Z (jm Z (jm Z (jkr E64 Z Z (Gn om96 (by omega)) (dc d3 dn) (kd (kc k0 kn)) ⟨Dw om96.1,om96.2⟩ fun m100 hm100 om100 bm100=>?_)))))))
 have w100_0:IntKind.i64.wrap (m96.nx)=m96.nx:=(IntWalk.i64_in _ (by omega))
 clear bm96
 refine jm Z (jm Z (Ba (r:=(rI .i64)) (l:=[sV9 m19,m93.nx]) U22 I3 (by decide) Z Z Z (lV Z Z (wI ((wfw d2))) (lV Z Z (wI ((wfw d0))) ln)) fun g103=>js (jbu (v := .agg #[.int .i64 14,.int .i64 m96.nx,.int .i64 0,(.slice (some ⟨g103,0,none⟩) 2 2),.int .i32 0]) Z (fun _=>by kernel_rfl)) (jfz k0 (by(try simp)<;>omega) (jkb Gj Z Z (Gf (i:=⟨14,m96.nx,0,[sV9 m19,m93.nx],0⟩) om100 (by omega) b (by first|exact hb9|decide|omega)) (dc d4 (dc (Ae.M (m:=⟨14,m96.nx,0,[sV9 m19,m93.nx],0⟩) (c:=(.slice (some ⟨g103,0,none⟩) 2 2)) d0 (wl 14) (wp w100_0) (wl 0) (wl 0)) dn)) (kd (kc k0 kn)) ⟨Dx om100.1 hbn,(Fd.trans om100.2)⟩ p0 fun m105 hm105 om105 bm105 ua105 qs105 w34=>?_))))
 clear bm100
 refine jn (jbn ?_)
 have hst:m105=Ce b m:=(by(try simp only[hm19,hm80,hm84,hm86,hm88,hm93,hm96,hm100,hm105] at hc1 hc3 hc4 hc5);(try simp only[hm19,hm80,hm84,hm86,hm88,hm93,hm96,hm100,hm105]);all_goals first|rfl|(simp[Ce,hc1,hc3,hc4,hc5];done)|(simp[Ce,hc1,hc3,hc4,hc5];rfl))
 exact jd0 Z (ua105,qs105) Z dn (fun _ _=>(kcb (by rw[←hst]) k0 (kcg (by rw[←hst]) k0 (kck (by rw[←hst]) k0 kn))))
 refine jsk (jx (jr (jm Z (jm Z (jm Z (jkr E64 Z Z (Gn om88 (by omega)) (dc d2 dn) (kd (kc k0 kn)) ⟨Dw om88.1,om88.2⟩ fun m100 hm100 om100 bm100=>?_))))))
 have w100_0:IntKind.i64.wrap (m88.nx)=m88.nx:=(IntWalk.i64_in _ (by omega))
 clear bm88
 refine jm Z (jm Z (Ba (r:=(rI .i64)) (l:=[sV9 m19,m84.nx]) U22 I3 (by decide) Z Z Z (lV Z Z (wI ((wfw d1))) (lV Z Z (wI ((wfw d0))) ln)) fun g103_35=>js (jbu (v := .agg #[.int .i64 14,.int .i64 m88.nx,.int .i64 0,(.slice (some ⟨g103_35,0,none⟩) 2 2),.int .i32 0]) Z (fun _=>by kernel_rfl)) (jfz k0 (by(try simp)<;>omega) (jkb Gj Z Z (Gf (i:=⟨14,m88.nx,0,[sV9 m19,m84.nx],0⟩) om100 (by omega) b (by first|exact hb9|decide|omega)) (dc d3 (dc (Ae.M (m:=⟨14,m88.nx,0,[sV9 m19,m84.nx],0⟩) (c:=(.slice (some ⟨g103_35,0,none⟩) 2 2)) d0 (wl 14) (wp w100_0) (wl 0) (wl 0)) dn)) (kd (kc k0 kn)) ⟨Dx om100.1 hbn,(Fd.trans om100.2)⟩ p0 fun m105 hm105 om105 bm105 ua105 qs105 w37=>?_))))
 clear bm100
 refine jn (jbn ?_)
 have hst:m105=Ce b m:=(by(try simp only[hm19,hm80,hm84,hm86,hm88,hm100,hm105] at hc1 hc3 hc4 hc5);(try simp only[hm19,hm80,hm84,hm86,hm88,hm100,hm105]);all_goals first|rfl|(simp[Ce,hc1,hc3,hc4,hc5];done)|(simp[Ce,hc1,hc3,hc4,hc5];rfl))
 exact jd0 Z (ua105,qs105) Z dn (fun _ _=>(kcb (by rw[←hst]) k0 (kcg (by rw[←hst]) k0 (kck (by rw[←hst]) k0 kn))))
 refine jq (jr (jm Z (js (Ai Z Z) (ja Z (jn (jx ?_))))))
 refine jif Z (fun hc6=>?_) (fun hc6=>?_)
 refine jr (jm Z (jm Z (jm Z (js (Aj Z Z) (jkb Aa2 Z Z (ST om19 (by omega) b (decide (tVV 20 m=15)) (by first|exact hb9|decide|omega)) (dc d0 dn) (kd (kc k0 kn)) ⟨DM om19.1 hbn,(DN.trans om19.2)⟩ p0 fun m113 hm113 om113 bm113 ua113 qs113 w38=>?_)))))
 clear bm19
 refine jn (jbn ?_)
 have hst:m113=Ce b m:=(by(try simp only[hm19,hm113] at hc1 hc3 hc4 hc6);(try simp only[hm19,hm113]);all_goals first|rfl|(simp[Ce,hc1,hc3,hc4,hc6];done)|(simp[Ce,hc1,hc3,hc4,hc6];rfl))
 exact jd0 Z (ua113,qs113) Z dn (fun _ _=>(kcb (by rw[←hst]) k0 (kcg (by rw[←hst]) k0 (kck (by rw[←hst]) k0 kn))))
 refine jq (jr (jm Z (js (Aj Z Z) (ja Z (jn (jx ?_))))))
 refine jif Z (fun hc7=>?_) (fun hc7=>?_)
 refine jq (jr (Ba (r:=(rI .i64)) (l:=[]) U22 I3 (by decide) Z Z Z ln fun g117=>ja Z (jn (jx (jq (jr (jm Z (jkr E47 Z Z (Du om19 (by omega) 5 (by first|exact hb9|decide|omega)) (dc d0 dn) (kc k1 (kc k1 (kc k1 kn))) ⟨tO9 om19.1,om19.2⟩ fun m119 hm119 om119 bm119=>?_))))))))
 have w119_0:IntKind.i64.wrap (tVV 5 m19)=tVV 5 m19:=(IntWalk.i64_in _ (by have h9:=@tV9 5 (by omega) m19;omega))
 have tr119:=@tV9 5 (by omega) m19
 clear bm19
 refine ja Z (jn (jx (jq (jq (jr (ja Z (jn (jx (jb ?_)))))))))
 refine jlp (u6 fun(i:Nat) (l:List Int) (v:Value) (mm:Mk) (al1:Value) (qs1:List BV)=>⟨i≤(tVV 5 m19).toNat∧Em b (tVV 5 m19).toNat [] m119=Em b ((tVV 5 m19).toNat-i) l mm∧l.length=i∧okS nb (c+20+8*i) S mm,[dv (rL (rI .i64)) vs S],[bx g0 108 [vs,.int .i64 mm.k,.int .i64 mm.par,vb,.int .i64 mm.nx,al1],gl B0 (rI .i64) 3 al1 mm.lv,bk B1 vb qs1 mm.bs,gl X.n (rI .i64) 3 v l],[(0,.pointer (some ⟨g0,0,none⟩)),(1,.int .i64 b),(12,v),(13,.int .i64 (tVV 5 m19)),(14,.int .i64 (↑i))],(tVV 5 m19).toNat-i⟩) (0,[],(.slice (some ⟨g117,0,none⟩) 0 0),m119,al,qs) ⟨by omega,rfl,rfl,om119.mono (by omega)⟩ (dc d0 dn) (kd (kd kn)) ⟨Z,Z,Z,Z,eqI (by omega),trivial⟩ ?_
 rintro⟨i,l,v,mm,al1,qs1⟩;dsimp only[u6];rintro⟨hi,hR,hl,okL1⟩
 refine cgo k3 fun w39=>cgo k1 fun w40=>?_
 have bdL1:=okM.bnd okL1.1
 clear bm119
 refine jq (jq (jr (jm Z (jm Z (js (Ai Z Z) (jn (jx ?_)))))))
 refine jif Z (fun hc8=>?_) (fun hc8=>?_)
 refine jsk (jx (jq (jb (jr (jm Z (jm Z (jm Z (jkb Ix Z Z (Io okL1 (by omega) b (by first|exact hb9|decide|omega)) (dc d0 dn) (kd (kc k0 kn)) ⟨Dy okL1.1 hbn,(Ge.trans okL1.2)⟩ p1 fun m128 hm128 om128 bm128 ua128 qs128 w41=>?_))))))))
 clear bdL1
 refine Hz U22 I3 (by decide) Z Z k3 Z (wI ((wfw d0))) (by omega) (fun _=>Z) fun v130 _ w43=>ja Z (jn (jbn (jx (jr (jm Z (js (Ac Z Z (by omega)) (ja Z (jn ?_))))))))
 exact jag (i+1,l++[sV9 mm],v130,m128,ua128,qs128) ⟨by dsimp only;omega,by dsimp only;rw[hR,show(tVV 5 m19).toNat-i=((tVV 5 m19).toNat-(i+1))+1 by omega,Em,hm128],by simp;omega,om128.mono (by omega)⟩ (dc d1 dn) (kc k1 (kc k1 (kc k1 (kc k0 kn)))) ⟨Z,Z,Z,Z,eqI (by omega),trivial⟩
 refine jex (jtx (jtx (jbh (jx (jr (jm Z (jm Z (jm Z (jkr E64 Z Z (Gn okL1 (by omega)) (dc d0 dn) (kd (kc k0 kn)) ⟨Dw okL1.1,okL1.2⟩ fun m134 hm134 om134 bm134=>?_)))))))))
 have w134_0:IntKind.i64.wrap (mm.nx)=mm.nx:=(IntWalk.i64_in _ (by omega))
 clear bdL1
 refine jm Z (jm Z (jkr E47 Z Z (Du om134 (by omega) 5 (by first|exact hb9|decide|omega)) (dc d0 dn) (kd (kc k0 kn)) ⟨tO9 om134.1,om134.2⟩ fun m137 hm137 om137 bm137=>?_))
 have w137_0:IntKind.i64.wrap (tVV 5 m134)=tVV 5 m134:=(IntWalk.i64_in _ (by have h9:=@tV9 5 (by omega) m134;omega))
 have tr137:=@tV9 5 (by omega) m134
 clear bm134
 refine js (jco U3 U21 Z Z) (js (jbu (v := .agg #[.int .i64 17,.int .i64 mm.nx,.int .i64 0,v,.int .i32 (IntKind.i32.wrap (tVV 5 m134))]) Z (fun _=>by obtain⟨_,_,_,rfl⟩:=w39;kernel_rfl)) (jfz k3 (by omega) (jkb Gj Z Z (Gf (i:=⟨17,mm.nx,0,l,IntKind.i32.wrap (tVV 5 m134)⟩) om137 (by omega) b (by first|exact hb9|decide|omega)) (dc d1 (dc (Ae.M (m:=⟨17,mm.nx,0,l,IntKind.i32.wrap (tVV 5 m134)⟩) (c:=v) d0 (wl 17) (wp w134_0) (wl 0) (wp (JE.wrap_wrap _ _))) dn)) (kd (kc k0 kn)) ⟨Dx om137.1 hbn,(Fd.trans om137.2)⟩ p0 fun m140 hm140 om140 bm140 ua140 qs140 w45=>?_)))
 clear bm137
 refine jn (jbn ?_)
 have hst:m140=Ce b m:=(by have hE:Em b (tVV 5 m19).toNat [] m119=(l,mm):=(by rw[hR,show(tVV 5 m19).toNat-i=0 by omega];rfl);(try simp only[hm19,hm119,hm134,hm137,hm140] at hE hc1 hc3 hc4 hc6 hc7 hc8);(try simp only[hm19,hm119,hm134,hm137,hm140]);simp[Ce,hc1,hc3,hc4,hc6,hc7,hc8,hE])
 exact jd0 Z (ua140,qs140) Z dn (fun _ _=>(kcb (by rw[←hst]) k0 (kcg (by rw[←hst]) k0 (kck (by rw[←hst]) k0 kn))))
 refine jq (jr (jm Z (js (Aj Z Z) (ja Z (jn (jx ?_))))))
 refine jif Z (fun hc9=>?_) (fun hc9=>?_)
 refine jq (jr (jm Z (jm Z (jkb Ix Z Z (Io om19 (by omega) b (by first|exact hb9|decide|omega)) (dc d0 dn) (kd (kc k0 kn)) ⟨Dy om19.1 hbn,(Ge.trans om19.2)⟩ p1 fun m146 hm146 om146 bm146 ua146 qs146 w46=>?_))))
 clear bm19
 refine ja Z (jn (jx (jq (jr (jm Z (jm Z (jkb Ix Z Z (Io om146 (by omega) b (by first|exact hb9|decide|omega)) (dc d1 dn) (kd (kc k0 kn)) ⟨Dy om146.1 hbn,(Ge.trans om146.2)⟩ p1 fun m149 hm149 om149 bm149 ua149 qs149 w48=>?_)))))))
 clear bm146
 refine ja Z (jn (jx (jq (jr (jm Z (jkr E64 Z Z (Gn om149 (by omega)) (dc d2 dn) (kd (kc k0 kn)) ⟨Dw om149.1,om149.2⟩ fun m151 hm151 om151 bm151=>?_))))))
 have w151_0:IntKind.i64.wrap (m149.nx)=m149.nx:=(IntWalk.i64_in _ (by omega))
 clear bm149
 refine ja Z (jn (jx (jr (jm Z (jm Z (jm Z (jm Z (jkr E64 Z Z (Gn om151 (by omega)) (dc d2 dn) (kd (kc k0 kn)) ⟨Dw om151.1,om151.2⟩ fun m156 hm156 om156 bm156=>?_))))))))
 have w156_0:IntKind.i64.wrap (m151.nx)=m151.nx:=(IntWalk.i64_in _ (by omega))
 clear bm151
 refine jm Z (jm Z (Ba (r:=(rI .i64)) (l:=[sV9 m19,sV9 m146]) U22 I3 (by decide) Z Z Z (lV Z Z (wI ((wfw d1))) (lV Z Z (wI ((wfw d0))) ln)) fun g159=>js (jbu (v := .agg #[.int .i64 18,.int .i64 m149.nx,.int .i64 m151.nx,(.slice (some ⟨g159,0,none⟩) 2 2),.int .i32 0]) Z (fun _=>by kernel_rfl)) (jfz k0 (by(try simp)<;>omega) (jkb Gj Z Z (Gf (i:=⟨18,m149.nx,m151.nx,[sV9 m19,sV9 m146],0⟩) om156 (by omega) b (by first|exact hb9|decide|omega)) (dc d3 (dc (Ae.M (m:=⟨18,m149.nx,m151.nx,[sV9 m19,sV9 m146],0⟩) (c:=(.slice (some ⟨g159,0,none⟩) 2 2)) d0 (wl 18) (wp w151_0) (wp w156_0) (wl 0)) dn)) (kd (kc k0 kn)) ⟨Dx om156.1 hbn,(Fd.trans om156.2)⟩ p0 fun m161 hm161 om161 bm161 ua161 qs161 w51=>?_))))
 clear bm156
 refine jn (jbn ?_)
 have hst:m161=Ce b m:=(by(try simp only[hm19,hm146,hm149,hm151,hm156,hm161] at hc1 hc3 hc4 hc6 hc7 hc9);(try simp only[hm19,hm146,hm149,hm151,hm156,hm161]);all_goals first|rfl|(simp[Ce,hc1,hc3,hc4,hc6,hc7,hc9];done)|(simp[Ce,hc1,hc3,hc4,hc6,hc7,hc9];rfl))
 exact jd0 Z (ua161,qs161) Z dn (fun _ _=>(kcb (by rw[←hst]) k0 (kcg (by rw[←hst]) k0 (kck (by rw[←hst]) k0 kn))))
 refine jr (jm Z (jm Z (jm Z (jkr E71 Z Z (Pq om19 (by omega)) (dc d0 dn) (kd (kc k0 kn)) ⟨Lj om19.1,om19.2⟩ fun m23 hm23 om23 bm23=>?_))))
 have w23_0:IntKind.i32.wrap (Ar m19)=Ar m19:=(Pg m19)
 clear bm19
 refine jkb E70 Z Z (Oq om23 (by omega) b (Ar m19) (by first|exact hb9|decide|omega) w23_0) (dc d0 dn) (kd (kc k0 kn)) ⟨Hc om23.1 hbn,(Mc.trans om23.2)⟩ p1 fun m24 hm24 om24 bm24 ua24 qs24 w52=>?_
 clear bm23
 refine jn (jbn ?_)
 have hst:m24=Ce b m:=(by(try simp only[hm19,hm23,hm24] at hc1 hc3 hc4 hc6 hc7 hc9);(try simp only[hm19,hm23,hm24]);all_goals first|rfl|(simp[Ce,hc1,hc3,hc4,hc6,hc7,hc9];done)|(simp[Ce,hc1,hc3,hc4,hc6,hc7,hc9];rfl))
 exact jd0 Z (ua24,qs24) Z dn (fun _ _=>(kcb (by rw[←hst]) k0 (kcg (by rw[←hst]) k0 (kck (by rw[←hst]) k0 kn))))
def tgA:Nat→Int→List (List Int)→Mk→List (List Int)×Mk
 | 0,_,to,m=>(to,m)
 | k+1,b,to,m =>
  if tVV 3 m=0 then tgA k (b+1) (to.set (tVV b (tSS m)).toNat (to.getD (tVV b (tSS m)).toNat []++[b])) (tSS (tSS m))
  else tgA k (b+1) (to.set (b-1).toNat (to.getD (b-1).toNat []++[b])) (tSS m)
def tgX(n b:Int)(m:Mk):Int×Mk :=
 if 1+tVV (n-1) m≤b then
  if tVV 2 (tSS m)=0 then (min (b+1) (n-1),tSS (tSS m)) else (1+tVV (n-1) m,tSS (tSS m))
 else (1+tVV (n-1) m,tSS m)
def tgI(n b:Int):Nat→List (List Int)→Mk→List (List Int)×Mk
 | 0,to,m=>(to,m)
 | k+1,to,m=>tgI n b k (to.set b.toNat (to.getD b.toNat []++[(tgX n b m).1])) (tgX n b m).2
def tgB(n:Int):Nat→Int→List (List Int)→Mk→List (List Int)×Mk
 | 0,_,to,m=>(to,m)
 | k+1,b,to,m=>tgB n k (b+1) (tgI n b (if 1<n then (tVV 6 m-3).toNat else 0) to (tSS m)).1 (tgI n b (if 1<n then (tVV 6 m-3).toNat else 0) to (tSS m)).2
def Of(n:Int)(m:Mk):List (List Int)×Mk:=tgA (n.toNat-1) 1 (List.replicate n.toNat []) m
def Cs(n:Int)(m:Mk):List (List Int)×Mk:=tgB n n.toNat 0 (Of n m).1 (Of n m).2
theorem Xm{ls:List (List Int)}{B:Nat}(h:∀j,(ls.getD j []).length≤B)(p:Nat)(x:Int):∀j,((ls.set p (ls.getD p []++[x])).getD j []).length≤B+1:=by
 intro j
 by_cases e:p=j
 ·subst e
  by_cases hp:p<ls.length
  ·have:=h p;simp[List.getD,hp] at *;omega
  ·simp[List.getD,hp]
 ·have:=h j;simp[List.getD,List.getElem?_set_ne e] at *;omega
theorem G0{ls:List (List Int)}{B C:Nat}(h:∀j,(ls.getD j []).length≤B)(hc:B≤C):∀j,(ls.getD j []).length≤C:=fun j=>Nat.le_trans (h j) hc
theorem F6{n B:Nat}:∀j,((List.replicate n ([]:List Int)).getD j []).length≤B:=by intro j;by_cases h:j<n<;>simp[List.getD,h]
section
variable{nb c:Nat}{m:Mk}
theorem D6:∀(k:Nat) (b:Int) (to:List (List Int)) {c:Nat} {m:Mk},okM nb c m→okM nb (c+2*k) (tgA k b to m).2
 | 0,_,_,_,_,h=>h
 | k+1,b,to,c,m,h=>by
  unfold tgA;split
  ·exact(D6 k _ _ (tO9 (tO9 h))).mono (by omega)
  ·exact(D6 k _ _ (tO9 h)).mono (by omega)
theorem KY{n b:Int}(h:okM nb c m):okM nb (c+2) (tgX n b m).2:=by
 unfold tgX;(repeat' split)
 ·exact tO9 (tO9 h)
 ·exact tO9 (tO9 h)
 ·exact(tO9 h).mono (by omega)
theorem V9{n b:Int}:∀(k:Nat) (to:List (List Int)) {c:Nat} {m:Mk},okM nb c m→okM nb (c+2*k) (tgI n b k to m).2
 | 0,_,_,_,h=>h
 | k+1,to,c,m,h=>by unfold tgI;exact(V9 k _ (KY h)).mono (by omega)
theorem W7{n:Int}:∀(k:Nat) (b:Int) (to:List (List Int)) {c:Nat} {m:Mk},okM nb c m→okM nb (c+5*k) (tgB n k b to m).2
 | 0,_,_,_,_,h=>h
 | k+1,b,to,c,m,h=>by
  unfold tgB
  have h6:=tV9 (n:=6) (by omega) m
  refine(W7 k (b+1) _ (c:=c+5) ?_).mono (by omega)
  exact(V9 _ to (tO9 h)).mono (by split<;>omega)
theorem X1{n:Int}(h:okM nb c m)(hn:n≤9):okM nb (c+70) (Cs n m).2:=(W7 _ _ _ (D6 _ _ _ h)).mono (by omega)
end
theorem X0:∀(k:Nat) (b:Int) (to:List (List Int)) (m:Mk),(tgA k b to m).1.length=to.length
 | 0,_,_,_=>rfl
 | k+1,b,to,m=>by unfold tgA;split<;>rw[X0 k]<;>simp
theorem W0{n b:Int}:∀(k:Nat) (to:List (List Int)) (m:Mk),(tgI n b k to m).1.length=to.length
 | 0,_,_=>rfl
 | k+1,to,m=>by unfold tgI;rw[W0 k];simp
theorem W8{n:Int}:∀(k:Nat) (b:Int) (to:List (List Int)) (m:Mk),(tgB n k b to m).1.length=to.length
 | 0,_,_,_=>rfl
 | k+1,b,to,m=>by unfold tgB;rw[W8 k,W0]
theorem LE(n:Int)(m:Mk):(Cs n m).1.length=n.toNat:=by unfold Cs Of;rw[W8,X0];simp
theorem KZ{n b:Int}(m:Mk):∃k,(tgX n b m).2={ m with k:=k }:=by unfold tgX;(repeat' split);exact⟨_,rfl⟩;exact⟨_,rfl⟩;exact⟨_,rfl⟩
theorem D7:∀(k:Nat) (b:Int) (to:List (List Int)) (m:Mk),∃q,(tgA k b to m).2={ m with k:=q }
 | 0,_,_,m=>⟨m.k,rfl⟩
 | k+1,b,to,m=>by
  unfold tgA;split
  ·obtain⟨q,hq⟩:=D7 k (b+1) (to.set (tVV b (tSS m)).toNat (to.getD (tVV b (tSS m)).toNat []++[b])) (tSS (tSS m));exact⟨q,hq⟩
  ·obtain⟨q,hq⟩:=D7 k (b+1) (to.set (b-1).toNat (to.getD (b-1).toNat []++[b])) (tSS m);exact⟨q,hq⟩
theorem W5{n b:Int}:∀(k:Nat) (to:List (List Int)) (m:Mk),∃q,(tgI n b k to m).2={ m with k:=q }
 | 0,_,m=>⟨m.k,rfl⟩
 | k+1,to,m=>by
  unfold tgI
  obtain⟨q,hq⟩:=W5 k (to.set b.toNat (to.getD b.toNat []++[(tgX n b m).1])) (tgX n b m).2
  obtain⟨q2,hq2⟩:=KZ (n:=n) (b:=b) m
  rw[hq,hq2];exact⟨q,rfl⟩
theorem W9{n:Int}:∀(k:Nat) (b:Int) (to:List (List Int)) (m:Mk),∃q,(tgB n k b to m).2={ m with k:=q }
 | 0,_,_,m=>⟨m.k,rfl⟩
 | k+1,b,to,m=>by
  unfold tgB
  obtain⟨q,hq⟩:=W9 (n:=n) k (b+1) (tgI n b (if 1<n then (tVV 6 m-3).toNat else 0) to (tSS m)).1 (tgI n b (if 1<n then (tVV 6 m-3).toNat else 0) to (tSS m)).2
  obtain⟨q2,hq2⟩:=W5 (n:=n) (b:=b) (if 1<n then (tVV 6 m-3).toNat else 0) to (tSS m)
  rw[hq,hq2];exact⟨q,rfl⟩
theorem Xb(n:Int)(m:Mk):∃q,(Cs n m).2={ m with k:=q }:=by
 obtain⟨q,hq⟩:=W9 (n:=n) n.toNat 0 (Of n m).1 (Of n m).2
 obtain⟨q2,hq2⟩:=D7 (n.toNat-1) 1 (List.replicate n.toNat []) m
 exact⟨q,by rw[Cs,hq];rw[show(Of n m).2=_ from hq2]⟩
theorem LC{n:Int}{m:Mk}:(Cs n m).2.s=m.s:=by obtain⟨q,h⟩:=Xb n m;rw[h]
theorem LD{n:Int}{m:Mk}:(Cs n m).2.lv=m.lv:=by obtain⟨q,h⟩:=Xb n m;rw[h]
theorem LG{n:Int}{m:Mk}:(Cs n m).2.bs=m.bs:=by obtain⟨q,h⟩:=Xb n m;rw[h]
theorem SR{vs vb al:Value}{m:Mk}{nb c:Nat}{S:List Int}{g0:Nat}(hok:okS nb c S m)(hc:c≤900000)(n:Int)(hn9:1≤n∧n≤9):KD Tryz.prog 62 [.int .i64 n] [] g0 vs vb al S (rL (rL (rI .i64))) ((Cs n m).1) m ((Cs n m).2):=by
 refine Af (args:=[.pointer (some ⟨g0,0,none⟩),.int .i64 n]) Tryz.func62 rfl rfl rfl fun w0 X=>?_
 have bd0:=okM.bnd hok.1
 refine jq (jr (ja Z (jn (jx (jq (jr (jm Z (jmk (m:=n.toNat) (r:=rV) Dd I22 Z Z Z (by omega) (by omega) (by omega) (wV Z) Z fun g13=>jrn (r:=(rI .i64)) (T:=3) n.toNat (ja Z (jn ?_))))))))))
 refine jx (jq (jq (jr (ja Z (jn (jx (jb ?_)))))))
 refine jlp (u4 fun(k:Nat) (vs1:List Value) (ls:List (List Int)) (mm:Mk)=>⟨1≤k∧(k:Int)≤n∧vs1.length=n.toNat∧ls.length=n.toNat∧(∀j,(ls.getD j []).length≤k)∧tgA (n.toNat-1) 1 (List.replicate n.toNat []) m=tgA (n.toNat-k) k ls mm∧okS nb (c+2*k) S mm,[dv (rL (rI .i64)) vs S],[rw' X.n (rI .i64) 3 vs1 ls,gl X.n rV 22 (.slice (some ⟨g13,0,none⟩) n.toNat n.toNat) vs1,bx g0 108 [vs,.int .i64 mm.k,.int .i64 mm.par,vb,.int .i64 mm.nx,al]],[(0,.pointer (some ⟨g0,0,none⟩)),(1,.int .i64 n),(4,.slice none 0 0),(5,(.slice (some ⟨g13,0,none⟩) n.toNat n.toNat)),(6,.int .i64 (↑k))],n.toNat-k⟩) (1,List.replicate n.toNat (.slice none 0 0),List.replicate n.toNat [],m) ⟨by omega,by omega,by simp,by simp,F6,rfl,hok.mono (by omega)⟩ (dc d0 dn) (kd (kc k0 kn)) ⟨Z,Z,Z,Z,eqI (by omega),trivial⟩ ?_
 rintro⟨k,vs1,ls,mm⟩;dsimp only[u4];rintro⟨hk1,hk2,hvl,hll,hrw,hR,okL1⟩
 have bdL1:=okM.bnd okL1.1
 clear bd0
 refine jq (jq (jr (jm Z (jm Z (js (Ai Z Z) (jn (jx ?_)))))))
 refine jif Z (fun hc1=>?_) (fun hc1=>?_)
 refine jsk (jx (jq (jb (jq (jr (jm Z (js (Gg Z Z (by omega)) (ja Z (jn (jx (jq ?_)))))))))))
 refine jq (jr (jm Z (jka E47 Z Z (Du okL1 (by omega) 3 (by first|decide|omega)) (dc d0 dn) k2 ⟨tO9 okL1.1,okL1.2⟩ fun m22 hm22 om22 bm22=>?_)))
 have w22_0:IntKind.i64.wrap (tVV 3 mm)=tVV 3 mm:=(IntWalk.i64_in _ (by have h9:=@tV9 3 (by omega) mm;omega))
 have tr22:=@tV9 3 (by omega) mm
 clear bdL1
 refine js (Aj Z Z) (jn (jx ?_))
 refine jif Z (fun hc2=>?_) (fun hc2=>?_)
 refine jr (jm Z (jm Z (jka E47 Z Z (Du om22 (by omega) ↑k (by first|decide|omega)) (dc d0 dn) k0 ⟨tO9 om22.1,om22.2⟩ fun m26 hm26 om26 bm26=>?_)))
 have w26_0:IntKind.i64.wrap (tVV ↑k m22)=tVV ↑k m22:=(IntWalk.i64_in _ (by have h9:=@tV9 ↑k (by omega) m22;omega))
 have tr26:=@tV9 ↑k (by omega) m22
 clear bm22
 refine ja Z (jn (jx (jr (jm Z (jm Z (jm Z (jm Z (js (jig (i:=(Int.toNat (tVV ↑k m22))) Dd Z22 k2 Z Z (by omega) (by omega)) (js (jgW k2 (by omega) O22 Z) (jm Z ?_))))))))))
 have hz:=hrw (Int.toNat (tVV ↑k m22))
 refine jro (Int.toNat (tVV ↑k m22)) k1 (by omega) (by omega) (jgo k0 fun w2=>Hz U22 I3 (by decide) Z Z k0 Z (wI (wp (IntWalk.i64_in _ (by omega)))) (by omega) (fun _=>Z) fun v35 _ w3=>js (jig (i:=(Int.toNat (tVV ↑k m22))) Dd Z22 k3 Z Z (by omega) (by omega)) (jsg k3 Z Z22 Z Z w3.one (by omega) (wV w3.one) (jru k1 k1 (by omega) (by omega) (jn (jbn (jx (jr (jm Z (js (Ac Z Z (by omega)) ?_)))))))))
 refine ja Z (jn ?_)
 exact jag (k+1,List.set vs1 (Int.toNat (tVV ((k:Nat):Int) m22)) v35,List.set ls (Int.toNat (tVV ((k:Nat):Int) m22)) ((List.getD ls (Int.toNat (tVV ((k:Nat):Int) m22)) [])++[((k:Nat):Int)]),m26) ⟨by dsimp only;omega,by dsimp only;omega,by simp[hvl],by simp[hll],Xm hrw _ _,by dsimp only;rw[hR,show n.toNat-k=(n.toNat-(k+1))+1 by omega,tgA];(first|rw[if_pos ‹_›]|rw[if_neg ‹_›]);(try simp only[hm22,hm26]);rfl,om26.mono (by omega)⟩ (dc d0 dn) (kd (kc k0 kn)) ⟨Z,Z,Z,Z,eqI (by omega),trivial⟩
 refine jsk (jx (jr (jm Z (jm Z (jm Z (jm Z (js (jig (i:=(Int.toNat (↑k-1))) Dd Z22 k2 Z Z (by omega) (by omega)) (js (jgW k2 (by omega) O22 Z) (jm Z ?_)))))))))
 have hz:=hrw (Int.toNat (↑k-1))
 refine jro (Int.toNat (↑k-1)) k1 (by omega) (by omega) (jgo k0 fun w5=>Hz U22 I3 (by decide) Z Z k0 Z (wI (wp (IntWalk.i64_in _ (by omega)))) (by omega) (fun _=>Z) fun v35_6 _ w7=>js (jig (i:=(Int.toNat (↑k-1))) Dd Z22 k3 Z Z (by omega) (by omega)) (jsg k3 Z Z22 Z Z w7.one (by omega) (wV w7.one) (jru k1 k1 (by omega) (by omega) (jn (jbn (jx (jr (jm Z (js (Ac Z Z (by omega)) ?_)))))))))
 refine ja Z (jn ?_)
 exact jag (k+1,List.set vs1 (Int.toNat (((k:Nat):Int)-1)) v35_6,List.set ls (Int.toNat (((k:Nat):Int)-1)) ((List.getD ls (Int.toNat (((k:Nat):Int)-1)) [])++[((k:Nat):Int)]),m22) ⟨by dsimp only;omega,by dsimp only;omega,by simp[hvl],by simp[hll],Xm hrw _ _,by dsimp only;rw[hR,show n.toNat-k=(n.toNat-(k+1))+1 by omega,tgA];(first|rw[if_pos ‹_›]|rw[if_neg ‹_›]);(try simp only[hm22]);rfl,om22.mono (by omega)⟩ (dc d0 dn) (kd (kc k0 kn)) ⟨Z,Z,Z,Z,eqI (by omega),trivial⟩
 have hA1:Of n m=(ls,mm):=by rw[Of,hR,show n.toNat-k=0 by omega];rfl
 refine jex (jtx (jtx (jbh (jx (jq (jq (jr (ja Z (jn (jx (jb ?_)))))))))))
 refine jlp (u4 fun(b:Nat) (vs2:List Value) (lt:List (List Int)) (mn:Mk)=>⟨(b:Int)≤n∧vs2.length=n.toNat∧lt.length=n.toNat∧(∀j,(lt.getD j []).length≤10+2*b)∧tgB n n.toNat 0 ls mm=tgB n (n.toNat-b) b lt mn∧okS nb (c+20+5*b) S mn,[dv (rL (rI .i64)) vs S],[rw' X.n (rI .i64) 3 vs2 lt,gl X.n rV 22 (.slice (some ⟨g13,0,none⟩) n.toNat n.toNat) vs2,bx g0 108 [vs,.int .i64 mn.k,.int .i64 mn.par,vb,.int .i64 mn.nx,al]],[(0,.pointer (some ⟨g0,0,none⟩)),(1,.int .i64 n),(4,.slice none 0 0),(5,(.slice (some ⟨g13,0,none⟩) n.toNat n.toNat)),(8,.int .i64 (↑b))],n.toNat-b⟩) (0,vs1,ls,mm) ⟨by omega,hvl,hll,G0 hrw (by omega),rfl,okL1.mono (by omega)⟩ (dc d0 dn) (kd (kc k0 kn)) ⟨Z,Z,Z,Z,eqI (by omega),trivial⟩ ?_
 rintro⟨b,vs2,lt,mn⟩;dsimp only[u4];rintro⟨hb1,hvl2,hll2,hrw2,hR2,okL2⟩
 have bdL2:=okM.bnd okL2.1
 clear bdL1
 refine jq (jq (jr (jm Z (jm Z (js (Ai Z Z) (jn (jx ?_)))))))
 refine jif Z (fun hc3=>?_) (fun hc3=>?_)
 refine jsk (jx (jq (jb (jq (jr (jm Z (jka E47 Z Z (Du okL2 (by omega) 6 (by first|decide|omega)) (dc d0 dn) k2 ⟨tO9 okL2.1,okL2.2⟩ fun m43 hm43 om43 bm43=>?_)))))))
 have w43_0:IntKind.i64.wrap (tVV 6 mn)=tVV 6 mn:=(IntWalk.i64_in _ (by have h9:=@tV9 6 (by omega) mn;omega))
 have tr43:=@tV9 6 (by omega) mn
 clear bdL2
 refine ja Z (jn (jx (jq (jr (ja Z (jn (jx (jb ?_))))))))
 refine jlp (u4 fun(i:Nat) (vs3:List Value) (lu:List (List Int)) (mo:Mk)=>⟨i≤(if 1<n then (tVV 6 mn-3).toNat else 0)∧vs3.length=n.toNat∧lu.length=n.toNat∧(∀j,(lu.getD j []).length≤10+2*b+i)∧tgI n b (if 1<n then (tVV 6 mn-3).toNat else 0) lt m43=tgI n b ((if 1<n then (tVV 6 mn-3).toNat else 0)-i) lu mo∧okS nb (c+20+5*b+1+2*i) S mo,[dv (rL (rI .i64)) vs S],[bx g0 108 [vs,.int .i64 mo.k,.int .i64 mo.par,vb,.int .i64 mo.nx,al],rw' X.n (rI .i64) 3 vs3 lu,gl X.n rV 22 (.slice (some ⟨g13,0,none⟩) n.toNat n.toNat) vs3],[(0,.pointer (some ⟨g0,0,none⟩)),(1,.int .i64 n),(4,.slice none 0 0),(5,(.slice (some ⟨g13,0,none⟩) n.toNat n.toNat)),(8,.int .i64 (↑b)),(9,.int .i64 (tVV 6 mn)),(10,.int .i64 (↑i))],(if 1<n then (tVV 6 mn-3).toNat else 0)-i⟩) (0,vs2,lt,m43) ⟨Nat.zero_le _,hvl2,hll2,G0 hrw2 (by omega),rfl,om43.mono (by omega)⟩ (dc d0 dn) (kd (kc k0 kn)) ⟨Z,Z,Z,Z,Z,Z,eqI (by omega),trivial⟩ ?_
 rintro⟨i,vs3,lu,mo⟩;dsimp only[u4];rintro⟨hi1,hvl3,hll3,hrw3,hR3,okL3⟩
 have bdL3:=okM.bnd okL3.1
 clear bm43
 refine jq (jq (jr (jm Z (jm Z (js (Gg Z Z (by omega)) (js (Ai Z Z) (jm Z (jg Z Z (.t _) (fun hg=>jmv Z) (jg Z Z (.t _) (fun hg=>Fi (evg Z hg) Z) (js (Cm Z Z) (jn ?_)))))))))))
 refine jx ?_
 refine jif Z (fun hc4=>?_) (fun hc4=>?_)
 refine jsk (jx (jq (jb (jq (jr (jm Z (jm Z (js (Gg Z Z (by omega)) (jka E47 Z Z (Du okL3 (by omega) (n-1) (by first|decide|omega)) (dc d0 dn) k0 ⟨tO9 okL3.1,okL3.2⟩ fun m57 hm57 om57 bm57=>?_)))))))))
 have w57_0:IntKind.i64.wrap (tVV (n-1) mo)=tVV (n-1) mo:=(IntWalk.i64_in _ (by have h9:=@tV9 (n-1) (by omega) mo;omega))
 have tr57:=@tV9 (n-1) (by omega) mo
 clear bdL3
 refine js (Ac Z Z (by omega)) (ja Z (jn (jx (jq (jq (jr (jm Z (jm Z (js (Nv Z Z) (jm Z (jg Z Z (.t _) (fun hg=>jmv Z) ?_)))))))))))
 refine UO Z Z (.t _) E47 Z (fun hg=>Pw (evg Z hg) Z) (Du om57 (by omega) 2 (by first|decide|omega)) (dc d0 dn) k0 (by split;exact⟨tO9 om57.1,om57.2⟩;exact om57.mono (by omega)) fun m64 hm64 om64 bm64=>?_
 have w64_0:IntKind.i64.wrap (tVV 2 m57)=tVV 2 m57:=(IntWalk.i64_in _ (by have h9:=@tV9 2 (by omega) m57;omega))
 have tr64:=@tV9 2 (by omega) m57
 clear bm57
 refine jg Z Z (.t _) (fun hg=>Aj (evg Z hg) Z) (js (Cm Z Z) (jn (jx ?_)))
 refine jif Z (fun hc5=>?_) (fun hc5=>?_)
 refine jr (jm Z (js (Ac Z Z (by omega)) (jm Z (js (Gg Z Z (by omega)) (js (Ot Z Z) (ja Z (jn (jx (jr (jm Z (jm Z ?_)))))))))))
 refine jm Z (jm Z (js (jig Dd Z22 k2 Z Z Z (by omega)) (js (jgW k2 (by omega) O22 Z) (jm Z ?_))))
 have hX:tgX n ((b:Nat):Int) mo=(min (((b:Nat):Int)+1) (n-1),m64):=by
  try simp only[hm57,hm64] at hc5
  simp only[hm57,hm64]
  by_cases hA:1+tVV (n-1) mo≤(b:Int)<;>by_cases hB:tVV 2 (tSS mo)=0<;>simp[hA,hB] at hc5<;>simp[tgX,hA,hB]
 have hz:=hrw3 b
 refine jro b k1 (by omega) (by omega) (jgo k0 fun w9=>Hz U22 I3 (by decide) Z Z k0 Z (wI (wp (IntWalk.i64_in _ (by omega)))) (by omega) (fun _=>Z) fun v80 _ w10=>js (jig Dd Z22 k3 Z Z Z (by omega)) (jsg k3 Z Z22 Z Z w10.one (by omega) (wV w10.one) (jru k1 k1 (by omega) (by omega) (jn (jbn (jx (jr (jm Z (js (Ac Z Z (by omega)) ?_)))))))))
 refine ja Z (jn ?_)
 exact jag (i+1,List.set vs3 b v80,List.set lu b ((List.getD lu b [])++[min (((b:Nat):Int)+1) (n-1)]),m64) ⟨by dsimp only;split<;>omega,by simp[hvl3],by simp[hll3],Xm hrw3 _ _,by dsimp only;rw[hR3,show(if 1<n then (tVV 6 mn-3).toNat else 0)-i=((if 1<n then (tVV 6 mn-3).toNat else 0)-(i+1))+1 by split<;>omega,tgI,hX];(first|done|rfl),om64.mono (by omega)⟩ (dc d0 dn) (kc k2 (kd kn)) ⟨Z,Z,Z,Z,Z,Z,eqI (by omega),trivial⟩ (by dsimp only;split<;>omega)
 refine jsk (jx (jr (jm Z (jm Z (jm Z (jm Z (js (jig Dd Z22 k2 Z Z Z (by omega)) (js (jgW k2 (by omega) O22 Z) (jm Z ?_)))))))))
 have hX:tgX n ((b:Nat):Int) mo=(1+(tVV (n-1) mo),m64):=by
  try simp only[hm57,hm64] at hc5
  simp only[hm57,hm64]
  by_cases hA:1+tVV (n-1) mo≤(b:Int)<;>by_cases hB:tVV 2 (tSS mo)=0<;>simp[hA,hB] at hc5<;>simp[tgX,hA,hB]
 have hz:=hrw3 b
 refine jro b k1 (by omega) (by omega) (jgo k0 fun w12=>Hz U22 I3 (by decide) Z Z k0 Z (wI (wp (IntWalk.i64_in _ (by omega)))) (by omega) (fun _=>Z) fun v80_13 _ w14=>js (jig Dd Z22 k3 Z Z Z (by omega)) (jsg k3 Z Z22 Z Z w14.one (by omega) (wV w14.one) (jru k1 k1 (by omega) (by omega) (jn (jbn (jx (jr (jm Z (js (Ac Z Z (by omega)) ?_)))))))))
 refine ja Z (jn ?_)
 exact jag (i+1,List.set vs3 b v80_13,List.set lu b ((List.getD lu b [])++[1+(tVV (n-1) mo)]),m64) ⟨by dsimp only;split<;>omega,by simp[hvl3],by simp[hll3],Xm hrw3 _ _,by dsimp only;rw[hR3,show(if 1<n then (tVV 6 mn-3).toNat else 0)-i=((if 1<n then (tVV 6 mn-3).toNat else 0)-(i+1))+1 by split<;>omega,tgI,hX];(first|done|rfl),om64.mono (by omega)⟩ (dc d0 dn) (kc k2 (kd kn)) ⟨Z,Z,Z,Z,Z,Z,eqI (by omega),trivial⟩ (by dsimp only;split<;>omega)
 have hI:tgI n ↑b (if 1<n then (tVV 6 mn-3).toNat else 0) lt (tSS mn)=(lu,mo):=by rw[←hm43,hR3,show(if 1<n then (tVV 6 mn-3).toNat else 0)-i=0 by split<;>omega];rfl
 have hJ9:(if 1<n then (tVV 6 mn-3).toNat else 0)≤2:=by have h6:=tV9 (n:=6) (by omega) mn;split<;>omega
 refine jex (jtx (jtx (jbh (jbn (jx (jr (jm Z (js (Ac Z Z (by omega)) (ja Z (jn ?_))))))))))
 exact jag (b+1,vs3,lu,mo) ⟨by dsimp only;omega,hvl3,hll3,G0 hrw3 (by omega),by dsimp only;rw[hR2,show n.toNat-b=(n.toNat-(b+1))+1 by omega,tgB,hI];rfl,okL3.mono (by omega)⟩ (dc d0 dn) (kc k1 (kc k1 (kc k0 kn))) ⟨Z,Z,Z,Z,eqI (by omega),trivial⟩
 have hT:Cs n m=(lt,mn):=by rw[Cs,hA1];dsimp only;rw[hR2,show n.toNat-b=0 by omega];rfl
 refine jex (jtx (jtx (jbh (jx (jq (jr (jm Z (ja Z (jn (jx (jrt ?_)))))))))))
 have hv0:(Cs n m).1=lt:=(by rw[hT])
 have hst:mn=(Cs n m).2:=(by rw[hT])
 refine qfr k1 k0 (by omega) (by omega) (fun l9 h9=>by obtain⟨j,hj,rfl⟩:=List.getElem_of_mem h9;have:=hrw2 j;simp[List.getD,hj] at this;omega) ?_
 exact jr1 Z Z (.slice (some ⟨g13,0,none⟩) n.toNat n.toNat) Z (dc (GT hv0 d0) dn) (fun _ _=>(kcb (by rw[←hst]) k0 kn))
def Jy(bs:List D.Block):Nat→Int→List Int
 | 0,_=>[]
 | k+1,b=>Jy bs k b++(if (ix bs k).Term.To.any (fun y=>decide (y=b)) then [(k:Int)] else [])
def pd3(f:D.Func)(b:Int):List Int:=Jy f.Blocks f.Blocks.length b
theorem G3(bs:List D.Block)(b:Int):∀k,(Jy bs k b).length≤k
 | 0=>by simp[Jy]
 | k+1=>by have:=G3 bs b k;rw[Jy,List.length_append];split<;>simp<;>omega
theorem RR{α:Type}{l:List α}{q:α→Bool}(h:∀x∈l,q x=false):l.any q=false:=by simpa[List.any_eq_false] using h
theorem RP{α:Type}[Inhabited α]{l:List α}{q:α→Bool}{k:Nat}(hk:k<l.length)(h:∀x∈l.take k,q x=false)(h1:q (ix l k)=false):∀x∈l.take (k+1),q x=false:=by
 rw[Ff hk];intro x hx;rcases List.mem_append.1 hx with hx|hx
 ·exact h x hx
 ·simp at hx;subst hx;exact h1
theorem f0{α:Type}[Inhabited α]{l:List α}{q:α→Bool}{k:Nat}(hk:k<l.length)(h1:q (ix l k)=true):l.any q=true:=List.any_eq_true.2 ⟨_,Ax hk,h1⟩
def Gu(l:List Bool):Nat:=l.countP (fun x=>!x)
theorem Rj{l:List Bool}{i:Nat}(hi:i<l.length)(h:ix l i=false):Gu (l.set i true)+1=Gu l:=by
 unfold Gu
 have h2:l[i]=false:=by rw[←Bn hi];exact h
 rw[List.countP_set hi]
 have:0<l.countP (fun x=>!x):=List.countP_pos_iff.2 ⟨_,List.getElem_mem hi,by simp[h2]⟩
 simp[h2];omega
theorem Uc(n:Nat):Gu (List.replicate n false)=n:=by simp[Gu,List.countP_replicate]
theorem Mp(n i:Nat):ix (List.replicate n false) i=false:=by by_cases h:i<n<;>simp[ix,h]
def Dr(w:Int):List Bool→List Int→List Int→List Bool×List Int
 | se,q,[]=>(se,q)
 | se,q,t::ts=>if (0≤t∧t<se.length)∧ix se t.toNat=false∧t≠w then Dr w (se.set t.toNat true) (q++[t]) ts else Dr w se q ts
def b3(bs:List D.Block)(w:Int):Nat→List Bool→List Int→Nat→List Bool
 | 0,se,_,_=>se
 | f+1,se,q,i=>if i<q.length then b3 bs w f (Dr w se q (ix bs (ix q i).toNat).Term.To).1 (Dr w se q (ix bs (ix q i).toNat).Term.To).2 (i+1) else se
def Fb(f:D.Func)(w:Int):List Bool :=
 if w≠0∧0<f.Blocks.length then b3 f.Blocks w f.Blocks.length ((List.replicate f.Blocks.length false).set 0 true) [0] 0
 else List.replicate f.Blocks.length false
theorem HN{bs:List D.Block}{w:Int}{f i:Nat}{se se2:List Bool}{q q2:List Int}(hf:0<f)(hi:i<q.length)(h:Dr w se q (ix bs (ix q i).toNat).Term.To=(se2,q2)):b3 bs w f se q i=b3 bs w (f-1) se2 q2 (i+1):=by
 cases f with
 | zero=>omega
 | succ f=>rw[b3,if_pos hi,h];rfl
theorem P8{bs:List D.Block}{w:Int}{f i:Nat}{se:List Bool}{q:List Int}(hi:q.length≤i):b3 bs w f se q i=se:=by
 cases f with
 | zero=>rfl
 | succ f=>rw[b3,if_neg (by omega)]
theorem HO{bs:List D.Block}{w:Int}{f:Nat}{se:List Bool}:b3 bs w f se [] 0=se:=P8 (by simp)
theorem HS{w:Int}{se se0:List Bool}{q q0 T:List Int}{j:Nat}(hj:j<T.length)(hIn:Dr w se q (T.drop j)=Dr w se0 q0 T)(h:(0≤ix T j∧ix T j<se.length)∧ix se (ix T j).toNat=false∧ix T j≠w):Dr w (se.set (ix T j).toNat true) (q++[ix T j]) (T.drop (j+1))=Dr w se0 q0 T:=by
 rw[←hIn,Dz hj,Dr,if_pos h]
theorem HR{w:Int}{se se0:List Bool}{q q0 T:List Int}{j:Nat}(hj:j<T.length)(hIn:Dr w se q (T.drop j)=Dr w se0 q0 T)(h:¬((0≤ix T j∧ix T j<se.length)∧ix se (ix T j).toNat=false∧ix T j≠w)):Dr w se q (T.drop (j+1))=Dr w se0 q0 T:=by
 rw[←hIn,Dz hj,Dr,if_neg h]
theorem Zm{w:Int}:∀(T:List Int) (se:List Bool) (q:List Int),(Dr w se q T).1.length=se.length
 | [],_,_=>rfl
 | t::ts,se,q=>by rw[Dr];split;(· rw[Zm ts];simp);exact Zm ts se q
theorem HP{bs:List D.Block}{w:Int}:∀(f:Nat) (se:List Bool) (q:List Int) (i:Nat),(b3 bs w f se q i).length=se.length
 | 0,_,_,_=>rfl
 | f+1,se,q,i=>by rw[b3];split;(· rw[HP f,Zm]);rfl
theorem Xo(f:D.Func)(w:Int):(Fb f w).length=f.Blocks.length:=by unfold Fb;split;(· rw[HP];simp);simp
def phT(b:Int)(i:Nat)(p:D.Phi):D.Tg3:=⟨b,-1-i,[p.Dst],p.In.map (·.Val)⟩
def phL(b:Int):Nat→List D.Phi→List D.Tg3
 | _,[]=>[]
 | i,p::l=>phT b i p::phL b (i+1) l
def inT(b:Int)(i:Nat)(x:D.Ins):D.Tg3:=⟨b,i,Aw x,x.Args⟩
def inL(b:Int):Nat→List D.Ins→List D.Tg3
 | _,[]=>[]
 | i,x::l=>inT b i x::inL b (i+1) l
def enT(b:Int)(x:D.Block):D.Tg3:=⟨b,(x.Ins.length:Nat),[],x.Term.Args⟩
def blL:Nat→List D.Block→List D.Tg3
 | _,[]=>[]
 | b,x::l=>phL b 0 x.Phis++(inL b 0 x.Ins++(enT b x::blL (b+1) l))
def De(f:D.Func):List D.Tg3:=blL 0 f.Blocks
theorem CJ(b:Int):∀(l:List D.Phi) (i:Nat),(phL b i l).length=l.length
 | [],_=>rfl
 | _::l,i=>by simp[phL,CJ b l]
theorem FF(b:Int):∀(l:List D.Ins) (i:Nat),(inL b i l).length=l.length
 | [],_=>rfl
 | _::l,i=>by simp[inL,FF b l]
theorem HI:∀(l:List D.Block) (b:Nat),(blL b l).length=Bw l
 | [],_=>rfl
 | x::l,b=>by simp[blL,Bw,CJ,FF,HI l];omega
theorem G8{α:Type}{a b c:List α}(h:a=b++c):b.length≤a.length:=by rw[h];simp
theorem ZY{a out:List D.Tg3}{l:List D.Block}{k:Nat}(hk:k<l.length)(h:a=out++blL k (l.drop k)):a=out++(phL k 0 ((ix l k).Phis.drop 0)++(inL k 0 (ix l k).Ins++(enT k (ix l k)::blL (k+1) (l.drop (k+1))))):=by rw[h,Dz hk,blL];rfl
theorem PX{a out r:List D.Tg3}{b:Int}{l:List D.Phi}{i:Nat}(hi:i<l.length)(h:a=out++(phL b i (l.drop i)++r)):a=(out++[phT b i (ix l i)])++(phL b (i+1) (l.drop (i+1))++r):=by rw[h,Dz hi,phL];simp
theorem PW{a out r:List D.Tg3}{b:Int}{l:List D.Phi}{i:Nat}(hi:l.length≤i)(h:a=out++(phL b i (l.drop i)++r)):a=out++r:=by rw[h,List.drop_of_length_le hi];rfl
theorem WJ{a out r:List D.Tg3}{b:Int}{l:List D.Ins}{i:Nat}(hi:i<l.length)(h:a=out++(inL b i (l.drop i)++r)):a=(out++[inT b i (ix l i)])++(inL b (i+1) (l.drop (i+1))++r):=by rw[h,Dz hi,inL];simp
theorem WI{a out r:List D.Tg3}{b:Int}{l:List D.Ins}{i:Nat}(hi:l.length≤i)(h:a=out++(inL b i (l.drop i)++r)):a=out++r:=by rw[h,List.drop_of_length_le hi];rfl
theorem ZX{a out r:List D.Tg3}{x:D.Tg3}(h:a=out++(x::r)):a=(out++[x])++r:=by rw[h];simp
theorem DV{α β:Type}[Inhabited α]{g:α→β}{l:List α}{k:Nat}(hk:k<l.length):(l.take (k+1)).map g=(l.take k).map g++[g (ix l k)]:=by rw[Ff hk];simp
def Ry(f:D.Func)(b:Int)(t:D.Tg3):Bool:=decide (t.Block=b)||!(ix (Fb f t.Block) b.toNat)
def Ll(f:D.Func)(b:Int)(l:List D.Tg3):List Int:=l.flatMap (fun t=>if Ry f b t then t.Makes else [])
def Ka(n:Nat):List Int:=(List.range n).map (fun(i:Nat)=>(i:Int))
def Ch(f:D.Func)(b:Int):List Int:=Ka f.Params.toNat++Ll f b (De f)
theorem DK(n:Nat):Ka (n+1)=Ka n++[(n:Int)]:=by simp[Ka,List.range_succ]
theorem Vl(n:Nat):(Ka n).length=n:=by simp[Ka]
theorem E3{f:D.Func}{b:Int}{l:List D.Tg3}{k:Nat}(hk:k<l.length):Ll f b (l.take (k+1))=Ll f b (l.take k)++(if Ry f b (ix l k) then (ix l k).Makes else []):=by
 rw[Ff hk];simp[Ll]
theorem DX{b:Int}:∀{l:List D.Ins} {i:Nat} {t:D.Tg3},t∈inL b i l→t.Makes.length≤2
 | [],_,_,h=>by cases h
 | x::l,i,t,h=>by
  rcases List.mem_cons.1 h with h|h
  ·subst h;exact Sx x
  ·exact DX h
theorem DW{b:Int}:∀{l:List D.Phi} {i:Nat} {t:D.Tg3},t∈phL b i l→t.Makes.length≤2
 | [],_,_,h=>by cases h
 | x::l,i,t,h=>by
  rcases List.mem_cons.1 h with h|h
  ·subst h;simp[phT]
  ·exact DW h
theorem DY:∀{l:List D.Block} {b:Nat} {t:D.Tg3},t∈blL b l→t.Makes.length≤2
 | [],_,_,h=>by cases h
 | x::l,b,t,h=>by
  rw[blL] at h
  rcases List.mem_append.1 h with h|h
  ·exact DW h
  ·rcases List.mem_append.1 h with h|h
   ·exact DX h
   ·rcases List.mem_cons.1 h with h|h
    ·subst h;simp[enT]
    ·exact DY h
theorem X5{f:D.Func}{b:Int}:∀{l:List D.Tg3},(∀t∈l,t.Makes.length≤2)→(Ll f b l).length≤2*l.length
 | [],_=>by simp[Ll]
 | x::l,h=>by
  have h1:=X5 (f:=f) (b:=b) (l:=l) (fun t ht=>h t (List.mem_cons_of_mem _ ht))
  have h2:=h x (List.mem_cons_self)
  unfold Ll at *
  rw[List.flatMap_cons,List.length_append,List.length_cons]
  split
  ·omega
  ·simp only[List.length_nil];omega
theorem Xa(f:D.Func):(De f).length=Bw f.Blocks:=HI _ _
theorem Wz(f:D.Func):∀t∈De f,t.Makes.length≤2:=fun _ h=>DY h
theorem H8(s:List Int):okM 0 0 ⟨s,0,0,[],0,[]⟩:=by simp[okM,Bw]
def Ie:Nat→List Int→Mk→List Int×Mk
 | 0,l,m=>(l,m)
 | n+1,l,m=>Ie n (l++[Ar m]) (Cb m)
theorem B9{n i:Nat}{a l:List Int}{m0 m:Mk}(hi:i<n)(h:Ie n a m0=Ie (n-i) l m):Ie n a m0=Ie (n-(i+1)) (l++[Ar m]) (Cb m):=by
 rw[h,show n-i=(n-(i+1))+1 by omega];rfl
theorem B8{n i:Nat}{a l:List Int}{m0 m:Mk}(hi:n≤i)(h:Ie n a m0=Ie (n-i) l m):Ie n a m0=(l,m):=by
 rw[h,show n-i=0 by omega];rfl
def Gq(s:List Int):D.Input :=
 let a:=Ie 4 [] ⟨s,0,0,[],0,[]⟩
 let b:=Ie (4+tVV 13 a.2).toNat [] (tSS a.2)
 let c:=Ie (tVV 7 b.2).toNat [] (tSS b.2)
 ⟨a.1,b.1,c.1,300⟩
theorem AV{a0:Value}{f:D.Func}(block:Int):Tg Tryz.prog 63 #[vFunc f a0,.int .i64 block] [da Ak (vFunc f a0) f] [] (rI .i64) 3 (pd3 f block):=by
 refine Af (args:=[vFunc f a0,.int .i64 block]) Tryz.func63 rfl rfl rfl fun w0 X=>?_
 refine jq (jr (Bj Z Z fun g2=>ja Z (jn (jx (jq (jr (Ba (r:=(rI .i64)) (l:=[]) U22 I3 (by decide) Z Z Z ln fun g9=>ja Z (jn (jx ?_)))))))))
 refine jq (jq (jr (ja Z (jn (jx (jb ?_))))))
 refine jlp (u3 fun(k:Nat) (vo:Value) (lo:List Int)=>⟨k≤f.Blocks.length∧lo=Jy f.Blocks k block,[da Ak (vFunc f a0) f],[gl X.n (rI .i64) 3 vo lo,bx g2 49 [.int .i64 f.Params,a0]],[(1,.int .i64 block),(2,.pointer (some ⟨g2,0,none⟩)),(4,.slice none 0 0),(5,vo),(6,.int .i64 (↑k))],f.Blocks.length-k⟩) (0,(.slice (some ⟨g9,0,none⟩) 0 0),[]) ⟨by dsimp only;omega,rfl⟩ (dc d0 dn) (kd kn) ⟨Z,Z,Z,Z,eqI (by omega),trivial⟩ ?_
 rintro⟨k,vo,lo⟩;dsimp only[u3];rintro⟨hk,hlo⟩
 refine cgo k0 fun w1=>?_
 have hll:lo.length≤k:=by rw[hlo];exact G3 _ _ _
 refine jq (jq (jr (jm Z (js (jf Cq Z) (js (jl k1 O47 Z Z) (jdq (Ak.cB d0) fun q2 w2=>js (jln U47 (Ak.cB d0) Z) (js (Ai Z Z) (jn (jx ?_)))))))))
 refine jif Z (fun hc1=>?_) (fun hc1=>?_)
 refine jsk (jx (jq (jb (jq (jr (js (jf Cq Z) (js (jl k1 O47 Z Z) (jm Z (js (jix U47 Z62 (Ak.cB d0) Z Z Z (by omega)) (js (jf He Z) (js (jf Ib Z) ?_)))))))))))
 refine jev (jlV (Ay.A_To (Ah.A_Term (dix (Ak.cB d0) k (by omega)))) O22 Z Z) fun v23 q3 w3=>ja Z (jn (jx (jq (jr (ja Z (jn (jx (jb ?_))))))))
 refine jlp (fun(j:Nat)=>⟨j≤(ix f.Blocks k).Term.To.length∧(∀x∈(ix f.Blocks k).Term.To.take j,decide (x=block)=false),[dv (rL (rI .i64)) v23 (((ix f.Blocks k).Term).To),da Ak (vFunc f a0) f],[gl X.n (rI .i64) 3 vo lo,bx g2 49 [.int .i64 f.Params,a0]],[(1,.int .i64 block),(2,.pointer (some ⟨g2,0,none⟩)),(4,.slice none 0 0),(5,vo),(6,.int .i64 (↑k)),(7,v23),(8,.int .i64 (↑j))],(ix f.Blocks k).Term.To.length-j⟩) 0 ⟨Nat.zero_le _,by simp⟩ (dc d0 (dc d1 dn)) (kd kn) ⟨Z,Z,Z,Z,Z,Z,eqI (by omega),trivial⟩ ?_
 rintro j;dsimp only;rintro⟨hj,hno⟩
 refine jq (jq (jr (jm Z (jm Z (js (jln U22 d0 Z) (js (Ai Z Z) (jn (jx ?_))))))))
 refine jif Z (fun hc2=>?_) (fun hc2=>?_)
 refine jsk (jx (jq (jb (jq (jr (jm Z (jm Z (js (jix U22 Z3 d0 Z Z Z (by omega)) (js (jlI (dix d0 j (by omega)) O3 Z) (jm Z (js (Aj Z Z) ?_)))))))))))
 refine jn (jx ?_)
 refine jif Z (fun hc3=>?_) (fun hc3=>?_)
 refine jq (jr (jm Z (jm Z (Hz U22 I3 (by decide) Z Z k0 Z (wI (wp (IntWalk.i64_in _ (by omega)))) (by omega) (fun _=>Z) fun v39 _ w5=>ja Z (jn (jx (jex (jbo (jtx (jtx ?_))))))))))
 refine jbh (jbn (jx (jr (jm Z (js (Ac Z Z (by omega)) (ja Z (jn ?_)))))))
 exact jag (k+1,v39,lo++[((k:Nat):Int)]) ⟨by dsimp only;omega,by dsimp only;rw[Jy,f0 (k:=j) (by omega) (by simpa using hc3),hlo];simp⟩ (dc d1 dn) (kd kn) ⟨Z,Z,Z,Z,eqI (by omega),trivial⟩
 refine jsk (jbn (jx (jr (jm Z (js (Ac Z Z (by omega)) (ja Z (jn ?_)))))))
 exact jag (j+1) ⟨by omega,RP (by omega) hno (by simpa using hc3)⟩ (dc d0 (dc d1 dn)) (kd kn) ⟨Z,Z,Z,Z,Z,Z,eqI (by omega),trivial⟩
 refine jex (jtx (jtx (jbh (jbn (jx (jr (jm Z (js (Ac Z Z (by omega)) (ja Z (jn ?_))))))))))
 exact jag (k+1,vo,lo) ⟨by dsimp only;omega,by dsimp only;rw[Jy,RR (l:=(ix f.Blocks k).Term.To) (by have h9:=hno;rw[List.take_of_length_le (by omega)] at h9;exact h9),hlo];simp⟩ (dc d1 dn) (kd kn) ⟨Z,Z,Z,Z,eqI (by omega),trivial⟩
 refine jex (jtx (jtx (jbh (jx (jq (jr (jm Z (ja Z (jn (jx (jrt ?_)))))))))))
 exact jrG Z Z (by have e9:k=f.Blocks.length:=(by omega);subst e9;exact hlo.symm) k0
theorem AU{a0:Value}{f:D.Func}(without:Int):Tg Tryz.prog 65 #[vFunc f a0,.int .i64 without] [da Ak (vFunc f a0) f] [] rB 4 (Fb f without):=by
 refine Af (args:=[vFunc f a0,.int .i64 without]) Tryz.func65 rfl rfl rfl fun w0 X=>?_
 refine jq (jr (Bj Z Z fun g2=>ja Z (jn (jx (jq (jr (js (jf Cq Z) (js (jl k0 O47 Z Z) (jdq (Ak.cB d0) fun q1 w1=>js (jln U47 (Ak.cB d0) Z) ?_)))))))))
 refine jmk (m:=(List.length f.Blocks)) (r:=rB) Fj I4 Z Z Z Z Z (by omega) wB Z fun g13=>ja Z (jn (jx (jq (jr (Ba (r:=(rI .i64)) (l:=[]) U22 I3 (by decide) Z Z Z ln fun g14=>ja Z (jn (jx (jq (jq ?_)))))))))
 refine jr (jm Z (js (Gz Z Z) (jm Z (jg Z Z (.t _) (fun hg=>jf Cq Z) (jg Z Z (.t _) (fun hg=>jl k2 O47 (evg Z hg) Z) (jg Z Z (.t _) (fun hg=>jln U47 (Ak.cB d0) (evg Z hg)) (jg Z Z (.t _) (fun hg=>Fi (evg Z hg) Z) (js (Cm Z Z) (jn (jx ?_))))))))))
 refine jif Z (fun hc1=>?_) (fun hc1=>?_)
 refine jq (jr (jm Z (js (jig (i:=0) Fj Z4 k1 Z Z Z (by rw[Sy];omega)) (jsg k1 Z Z4 Z Z Z (by rw[Sy];omega) wB (jn (jx (jr (jm Z (VO U22 I3 (by decide) Z Z k1 Z (wI (wl 0)) (fun _=>Z) fun v27 _ w2=>ja Z (jn ?_))))))))))
 refine jx (jq (jq (jr (ja Z (jn (jx (jb ?_)))))))
 refine jlp (u4 fun(i:Nat) (se:List Bool) (l:List Int) (vl:Value)=>⟨Fb f without=b3 f.Blocks without (f.Blocks.length-i) se l i∧Gu se+l.length≤f.Blocks.length∧i≤l.length∧se.length=f.Blocks.length∧(∀x∈l,0≤x∧x<f.Blocks.length),[da Ak (vFunc f a0) f],[gl X.n (rI .i64) 3 vl l,gl X.n rB 4 (.slice (some ⟨g13,0,none⟩) (List.length f.Blocks) (List.length f.Blocks)) se,bx g2 49 [.int .i64 f.Params,a0]],[(1,.int .i64 without),(2,.pointer (some ⟨g2,0,none⟩)),(4,.slice none 0 0),(5,(.slice (some ⟨g13,0,none⟩) (List.length f.Blocks) (List.length f.Blocks))),(6,vl),(7,.int .i64 (↑i))],f.Blocks.length-i⟩) (0,List.set (List.replicate (List.length f.Blocks) false) 0 true,[0],v27) ⟨by first|(unfold Fb;rw[if_pos (by omega)];rfl)|(unfold Fb;rw[if_neg (by omega)];exact HO.symm),by dsimp only;first|(rw[Uc];simp;done)|(have h9:=Rj (l:=List.replicate f.Blocks.length false) (i:=0) (by simp;omega) (Mp _ _);rw[Uc] at h9;simp only[List.length_cons,List.length_nil];omega),by simp,by simp,by first|(simp;done)|(simp;omega)⟩ (dc d0 dn) (kd (kc k0 kn)) ⟨Z,Z,Z,Z,Z,eqI (by omega),trivial⟩ ?_
 rintro⟨i,se,l,vl⟩;dsimp only[u4];rintro⟨hb,hcn,hil,hse,hq⟩
 refine cgo k0 fun w3=>jq (jq (jr (jm Z (jm Z (js (jlg U22 k0 Z) (js (Ai Z Z) (jn (jx ?_))))))))
 refine jif Z (fun hc2=>?_) (fun hc2=>?_)
 have hqi:=hq _ (Ax (l:=l) (i:=i) (by omega))
 refine jsk (jx (jq (jb (jq (Jj Bh (by kernel_rfl) (jt (jf Cq Z) (jt (jl k2 O47 Z Z) (jt (jmv Z) (jt (jmv Z) (jt (jig U22 Z3 k0 Z Z Z (by omega)) (jt (jgI k0 (by omega) O3 Z) ?_)))))))))))
 refine jt (jix (i:=(Int.toNat (ix l i))) U47 Z62 (Ak.cB d0) Z Z (by omega) (by omega)) (jt (jf He Z) (jt (jf Ib Z) (jtv (jlV (Ay.A_To (Ah.A_Term (dix (Ak.cB d0) (Int.toNat (ix l i)) (by omega)))) O22 Z Z) fun v43 q4 w4=>jt (jas Z) (jdn (jx (jq (jr (ja Z (jn (jx ?_))))))))))
 refine jb ?_
 refine jlp (u4 fun(j:Nat) (se2:List Bool) (l2:List Int) (vl2:Value)=>⟨j≤(ix f.Blocks (Int.toNat (ix l i))).Term.To.length∧Dr without se2 l2 ((ix f.Blocks (Int.toNat (ix l i))).Term.To.drop j)=Dr without se l (ix f.Blocks (Int.toNat (ix l i))).Term.To∧Gu se2+l2.length≤f.Blocks.length∧se2.length=f.Blocks.length∧(∀x∈l2,0≤x∧x<f.Blocks.length)∧i<l2.length,[dv (rL (rI .i64)) v43 (((ix f.Blocks (Int.toNat (ix l i))).Term).To),da Ak (vFunc f a0) f],[gl X.n (rI .i64) 3 vl2 l2,gl X.n rB 4 (.slice (some ⟨g13,0,none⟩) (List.length f.Blocks) (List.length f.Blocks)) se2,bx g2 49 [.int .i64 f.Params,a0]],[(1,.int .i64 without),(2,.pointer (some ⟨g2,0,none⟩)),(4,.slice none 0 0),(5,(.slice (some ⟨g13,0,none⟩) (List.length f.Blocks) (List.length f.Blocks))),(6,vl2),(7,.int .i64 (↑i)),(8,v43),(9,.int .i64 (↑j))],(ix f.Blocks (Int.toNat (ix l i))).Term.To.length-j⟩) (0,se,l,vl) ⟨Nat.zero_le _,rfl,hcn,hse,hq,by dsimp only;omega⟩ (dc d0 (dc d1 dn)) (kd (kc k0 kn)) ⟨Z,Z,Z,Z,Z,Z,Z,eqI (by omega),trivial⟩ ?_
 rintro⟨j,se2,l2,vl2⟩;dsimp only[u4];rintro⟨hj,hIn,hcn2,hse2,hq2,hi2⟩
 refine cgo k0 fun w6=>jq (jq (jr (jm Z (jm Z (js (jln U22 d0 Z) (js (Ai Z Z) (jn (jx ?_))))))))
 refine jif Z (fun hc3=>?_) (fun hc3=>?_)
 refine jsk (jx (jq (jb (jq (jr (jm Z (jm Z (js (jix U22 Z3 d0 Z Z Z (by omega)) (js (jlI (dix d0 j (by omega)) O3 Z) (js (Eo Z Z) (jm Z ?_)))))))))))
 refine jg Z Z (.t _) (fun hg=>jmv Z) (jg Z Z (.t _) (fun hg=>jmv Z) (jg Z Z (.t _) (fun hg=>jix U22 Z3 d0 (evg Z hg) (evg Z hg) Z (by first|omega|(simp at hg;omega)|(simp only[List.length_set];omega)|(simp;done))) (jg Z Z (.t _) (fun hg=>jlI (dix d0 j (by first|omega|(simp at hg;omega)|(simp only[List.length_set];omega)|(simp;done))) O3 (evg Z hg)) (jg Z Z (.t _) (fun hg=>jmv Z) (jg Z Z (.t _) (fun hg=>jlg Fj k1 (evg Z hg)) (jg Z Z (.t _) (fun hg=>Ai (evg Z hg) (evg Z hg)) (js (Cm Z Z) (jm Z (jg Z Z (.t _) (fun hg=>jmv Z) (jg Z Z (.t _) (fun hg=>jmv Z) (jg Z Z (.t _) (fun hg=>jmv Z) ?_)))))))))))
 refine jg Z Z (.t _) (fun hg=>jix U22 Z3 d0 (evg Z hg) (evg Z hg) Z (by first|omega|(simp at hg;omega)|(simp only[List.length_set];omega)|(simp;done))) (jg Z Z (.t _) (fun hg=>jlI (dix d0 j (by first|omega|(simp at hg;omega)|(simp only[List.length_set];omega)|(simp;done))) O3 (evg Z hg)) (jg Z Z (.t _) (fun hg=>jig (i:=(Int.toNat (ix (((ix f.Blocks (Int.toNat (ix l i))).Term).To) j))) Fj Z4 k1 (evg Z hg) (evg Z hg) (by first|omega|(simp at hg;omega)) (by first|omega|(simp at hg;omega)|(simp only[List.length_set];omega)|(simp;done))) (jg Z Z (.t _) (fun hg=>jgB k1 (by first|omega|(simp at hg;omega)|(simp only[List.length_set];omega)|(simp;done)) O4 (evg Z hg)) (jg Z Z (.t _) (fun hg=>Dv (evg Z hg)) (js (Cm Z Z) (jm Z (jg Z Z (.t _) (fun hg=>jmv Z) (jg Z Z (.t _) (fun hg=>jmv Z) (jg Z Z (.t _) (fun hg=>jix U22 Z3 d0 (evg Z hg) (evg Z hg) Z (by first|omega|(simp at hg;omega)|(simp only[List.length_set];omega)|(simp;done))) (jg Z Z (.t _) (fun hg=>jlI (dix d0 j (by first|omega|(simp at hg;omega)|(simp only[List.length_set];omega)|(simp;done))) O3 (evg Z hg)) (jg Z Z (.t _) (fun hg=>jmv Z) ?_)))))))))))
 refine jg Z Z (.t _) (fun hg=>Gz (evg Z hg) (evg Z hg)) (js (Cm Z Z) (jn (jx ?_)))
 refine jif Z (fun hc4=>?_) (fun hc4=>?_)
 have hcx:((0≤ix (ix f.Blocks (Int.toNat (ix l i))).Term.To j∧ix (ix f.Blocks (Int.toNat (ix l i))).Term.To j<se2.length)∧ix se2 (Int.toNat (ix (ix f.Blocks (Int.toNat (ix l i))).Term.To j))=false∧ix (ix f.Blocks (Int.toNat (ix l i))).Term.To j≠without):=by simpa[and_assoc] using hc4
 refine jq (jr (jm Z (jm Z (jm Z (js (jix U22 Z3 d0 Z Z Z (by omega)) (js (jlI (dix d0 j (by omega)) O3 Z) (js (jig (i:=(Int.toNat (ix (((ix f.Blocks (Int.toNat (ix l i))).Term).To) j))) Fj Z4 k1 Z Z (by omega) (by omega)) (jsg k1 Z Z4 Z Z Z (by omega) wB (jn (jx (jr ?_)))))))))))
 refine jm Z (jm Z (jm Z (js (jix U22 Z3 d0 Z Z Z (by omega)) (js (jlI (dix d0 j (by omega)) O3 Z) (Hz U22 I3 (by decide) Z Z k1 Z (wI (wad (dix d0 j (by omega)))) (by omega) (fun _=>Z) fun v94 _ w7=>ja Z (jn (jbn (jx (jr (jm Z ?_))))))))))
 refine js (Ac Z Z (by omega)) (ja Z (jn ?_))
 exact jag (j+1,List.set se2 (Int.toNat (ix (((ix f.Blocks (Int.toNat (ix l i))).Term).To) j)) true,l2++[ix (((ix f.Blocks (Int.toNat (ix l i))).Term).To) j],v94) ⟨by dsimp only;omega,HS (by omega) hIn hcx,by dsimp only;have h9:=Rj (l:=se2) (i:=Int.toNat (ix (ix f.Blocks (Int.toNat (ix l i))).Term.To j)) (by omega) hcx.2.1;rw[List.length_append];simp;omega,by dsimp only;rw[List.length_set];exact hse2,by dsimp only;intro x hx9;rcases List.mem_append.1 hx9 with h9|h9;(· exact hq2 x h9);(simp at h9;subst h9;omega),by dsimp only;rw[List.length_append];omega⟩ (dc d0 (dc d1 dn)) (kd (kc k0 kn)) ⟨Z,Z,Z,Z,Z,Z,Z,eqI (by omega),trivial⟩
 have hcx:¬((0≤ix (ix f.Blocks (Int.toNat (ix l i))).Term.To j∧ix (ix f.Blocks (Int.toNat (ix l i))).Term.To j<se2.length)∧ix se2 (Int.toNat (ix (ix f.Blocks (Int.toNat (ix l i))).Term.To j))=false∧ix (ix f.Blocks (Int.toNat (ix l i))).Term.To j≠without):=by rintro⟨⟨a1,a2⟩,a3,a4⟩;simp[a3,a4] at hc4;omega
 refine jsk (jbn (jx (jr (jm Z (js (Ac Z Z (by omega)) (ja Z (jn ?_)))))))
 exact jag (j+1,se2,l2,vl2) ⟨by dsimp only;omega,HR (by omega) hIn hcx,hcn2,hse2,hq2,hi2⟩ (dc d0 (dc d1 dn)) (kd (kc k0 kn)) ⟨Z,Z,Z,Z,Z,Z,Z,eqI (by omega),trivial⟩
 refine jex (jtx (jtx (jbh (jbn (jx (jr (jm Z (js (Ac Z Z (by omega)) (ja Z (jn ?_))))))))))
 exact jag (i+1,se2,l2,vl2) ⟨by dsimp only;rw[hb,HN (by omega) (by omega) (show Dr _ _ _ _=(se2,l2) by rw[←hIn,List.drop_of_length_le (by omega)];rfl),show f.Blocks.length-i-1=f.Blocks.length-(i+1) by omega],by dsimp only;omega,by dsimp only;omega,hse2,hq2⟩ (dc d1 dn) (kd (kc k0 kn)) ⟨Z,Z,Z,Z,Z,eqI (by omega),trivial⟩
 refine jex (jtx (jtx (jbh (jx (jq (jr (jm Z (ja Z (jn (jx (jrt ?_)))))))))))
 exact jrG Z Z (by rw[hb];exact P8 (by omega)) k1
 refine jsk (jx (jq (jq (jr (ja Z (jn (jx (jb ?_))))))))
 refine jlp (u4 fun(i:Nat) (se:List Bool) (l:List Int) (vl:Value)=>⟨Fb f without=b3 f.Blocks without (f.Blocks.length-i) se l i∧Gu se+l.length≤f.Blocks.length∧i≤l.length∧se.length=f.Blocks.length∧(∀x∈l,0≤x∧x<f.Blocks.length),[da Ak (vFunc f a0) f],[gl X.n (rI .i64) 3 vl l,gl X.n rB 4 (.slice (some ⟨g13,0,none⟩) (List.length f.Blocks) (List.length f.Blocks)) se,bx g2 49 [.int .i64 f.Params,a0]],[(1,.int .i64 without),(2,.pointer (some ⟨g2,0,none⟩)),(4,.slice none 0 0),(5,(.slice (some ⟨g13,0,none⟩) (List.length f.Blocks) (List.length f.Blocks))),(6,vl),(7,.int .i64 (↑i))],f.Blocks.length-i⟩) (0,List.replicate (List.length f.Blocks) false,[],(.slice (some ⟨g14,0,none⟩) 0 0)) ⟨by first|(unfold Fb;rw[if_pos (by omega)];rfl)|(unfold Fb;rw[if_neg (by omega)];exact HO.symm),by dsimp only;first|(rw[Uc];simp;done)|(have h9:=Rj (l:=List.replicate f.Blocks.length false) (i:=0) (by simp;omega) (Mp _ _);rw[Uc] at h9;simp only[List.length_cons,List.length_nil];omega),by simp,by simp,by first|(simp;done)|(simp;omega)⟩ (dc d0 dn) (kd (kc k0 kn)) ⟨Z,Z,Z,Z,Z,eqI (by omega),trivial⟩ ?_
 rintro⟨i,se,l,vl⟩;dsimp only[u4];rintro⟨hb,hcn,hil,hse,hq⟩
 refine cgo k0 fun w8=>jq (jq (jr (jm Z (jm Z (js (jlg U22 k0 Z) (js (Ai Z Z) (jn (jx ?_))))))))
 refine jif Z (fun hc5=>?_) (fun hc5=>?_)
 have hqi:=hq _ (Ax (l:=l) (i:=i) (by omega))
 refine jsk (jx (jq (jb (jq (Jj Bh (by kernel_rfl) (jt (jf Cq Z) (jt (jl k2 O47 Z Z) (jt (jmv Z) (jt (jmv Z) (jt (jig U22 Z3 k0 Z Z Z (by omega)) (jt (jgI k0 (by omega) O3 Z) ?_)))))))))))
 refine jt (jix (i:=(Int.toNat (ix l i))) U47 Z62 (Ak.cB d0) Z Z (by omega) (by omega)) (jt (jf He Z) (jt (jf Ib Z) (jtv (jlV (Ay.A_To (Ah.A_Term (dix (Ak.cB d0) (Int.toNat (ix l i)) (by omega)))) O22 Z Z) fun v43_9 q10 w10=>jt (jas Z) (jdn (jx (jq (jr (ja Z (jn (jx ?_))))))))))
 refine jb ?_
 refine jlp (u4 fun(j:Nat) (se2:List Bool) (l2:List Int) (vl2:Value)=>⟨j≤(ix f.Blocks (Int.toNat (ix l i))).Term.To.length∧Dr without se2 l2 ((ix f.Blocks (Int.toNat (ix l i))).Term.To.drop j)=Dr without se l (ix f.Blocks (Int.toNat (ix l i))).Term.To∧Gu se2+l2.length≤f.Blocks.length∧se2.length=f.Blocks.length∧(∀x∈l2,0≤x∧x<f.Blocks.length)∧i<l2.length,[dv (rL (rI .i64)) v43_9 (((ix f.Blocks (Int.toNat (ix l i))).Term).To),da Ak (vFunc f a0) f],[gl X.n (rI .i64) 3 vl2 l2,gl X.n rB 4 (.slice (some ⟨g13,0,none⟩) (List.length f.Blocks) (List.length f.Blocks)) se2,bx g2 49 [.int .i64 f.Params,a0]],[(1,.int .i64 without),(2,.pointer (some ⟨g2,0,none⟩)),(4,.slice none 0 0),(5,(.slice (some ⟨g13,0,none⟩) (List.length f.Blocks) (List.length f.Blocks))),(6,vl2),(7,.int .i64 (↑i)),(8,v43_9),(9,.int .i64 (↑j))],(ix f.Blocks (Int.toNat (ix l i))).Term.To.length-j⟩) (0,se,l,vl) ⟨Nat.zero_le _,rfl,hcn,hse,hq,by dsimp only;omega⟩ (dc d0 (dc d1 dn)) (kd (kc k0 kn)) ⟨Z,Z,Z,Z,Z,Z,Z,eqI (by omega),trivial⟩ ?_
 rintro⟨j,se2,l2,vl2⟩;dsimp only[u4];rintro⟨hj,hIn,hcn2,hse2,hq2,hi2⟩
 refine cgo k0 fun w12=>jq (jq (jr (jm Z (jm Z (js (jln U22 d0 Z) (js (Ai Z Z) (jn (jx ?_))))))))
 refine jif Z (fun hc6=>?_) (fun hc6=>?_)
 refine jsk (jx (jq (jb (jq (jr (jm Z (jm Z (js (jix U22 Z3 d0 Z Z Z (by omega)) (js (jlI (dix d0 j (by omega)) O3 Z) (js (Eo Z Z) (jm Z ?_)))))))))))
 refine jg Z Z (.t _) (fun hg=>jmv Z) (jg Z Z (.t _) (fun hg=>jmv Z) (jg Z Z (.t _) (fun hg=>jix U22 Z3 d0 (evg Z hg) (evg Z hg) Z (by first|omega|(simp at hg;omega)|(simp only[List.length_set];omega)|(simp;done))) (jg Z Z (.t _) (fun hg=>jlI (dix d0 j (by first|omega|(simp at hg;omega)|(simp only[List.length_set];omega)|(simp;done))) O3 (evg Z hg)) (jg Z Z (.t _) (fun hg=>jmv Z) (jg Z Z (.t _) (fun hg=>jlg Fj k1 (evg Z hg)) (jg Z Z (.t _) (fun hg=>Ai (evg Z hg) (evg Z hg)) (js (Cm Z Z) (jm Z (jg Z Z (.t _) (fun hg=>jmv Z) (jg Z Z (.t _) (fun hg=>jmv Z) (jg Z Z (.t _) (fun hg=>jmv Z) ?_)))))))))))
 refine jg Z Z (.t _) (fun hg=>jix U22 Z3 d0 (evg Z hg) (evg Z hg) Z (by first|omega|(simp at hg;omega)|(simp only[List.length_set];omega)|(simp;done))) (jg Z Z (.t _) (fun hg=>jlI (dix d0 j (by first|omega|(simp at hg;omega)|(simp only[List.length_set];omega)|(simp;done))) O3 (evg Z hg)) (jg Z Z (.t _) (fun hg=>jig (i:=(Int.toNat (ix (((ix f.Blocks (Int.toNat (ix l i))).Term).To) j))) Fj Z4 k1 (evg Z hg) (evg Z hg) (by first|omega|(simp at hg;omega)) (by first|omega|(simp at hg;omega)|(simp only[List.length_set];omega)|(simp;done))) (jg Z Z (.t _) (fun hg=>jgB k1 (by first|omega|(simp at hg;omega)|(simp only[List.length_set];omega)|(simp;done)) O4 (evg Z hg)) (jg Z Z (.t _) (fun hg=>Dv (evg Z hg)) (js (Cm Z Z) (jm Z (jg Z Z (.t _) (fun hg=>jmv Z) (jg Z Z (.t _) (fun hg=>jmv Z) (jg Z Z (.t _) (fun hg=>jix U22 Z3 d0 (evg Z hg) (evg Z hg) Z (by first|omega|(simp at hg;omega)|(simp only[List.length_set];omega)|(simp;done))) (jg Z Z (.t _) (fun hg=>jlI (dix d0 j (by first|omega|(simp at hg;omega)|(simp only[List.length_set];omega)|(simp;done))) O3 (evg Z hg)) (jg Z Z (.t _) (fun hg=>jmv Z) ?_)))))))))))
 refine jg Z Z (.t _) (fun hg=>Gz (evg Z hg) (evg Z hg)) (js (Cm Z Z) (jn (jx ?_)))
 refine jif Z (fun hc7=>?_) (fun hc7=>?_)
 have hcx:((0≤ix (ix f.Blocks (Int.toNat (ix l i))).Term.To j∧ix (ix f.Blocks (Int.toNat (ix l i))).Term.To j<se2.length)∧ix se2 (Int.toNat (ix (ix f.Blocks (Int.toNat (ix l i))).Term.To j))=false∧ix (ix f.Blocks (Int.toNat (ix l i))).Term.To j≠without):=by simpa[and_assoc] using hc7
 refine jq (jr (jm Z (jm Z (jm Z (js (jix U22 Z3 d0 Z Z Z (by omega)) (js (jlI (dix d0 j (by omega)) O3 Z) (js (jig (i:=(Int.toNat (ix (((ix f.Blocks (Int.toNat (ix l i))).Term).To) j))) Fj Z4 k1 Z Z (by omega) (by omega)) (jsg k1 Z Z4 Z Z Z (by omega) wB (jn (jx (jr ?_)))))))))))
 refine jm Z (jm Z (jm Z (js (jix U22 Z3 d0 Z Z Z (by omega)) (js (jlI (dix d0 j (by omega)) O3 Z) (Hz U22 I3 (by decide) Z Z k1 Z (wI (wad (dix d0 j (by omega)))) (by omega) (fun _=>Z) fun v94_13 _ w14=>ja Z (jn (jbn (jx (jr (jm Z ?_))))))))))
 refine js (Ac Z Z (by omega)) (ja Z (jn ?_))
 exact jag (j+1,List.set se2 (Int.toNat (ix (((ix f.Blocks (Int.toNat (ix l i))).Term).To) j)) true,l2++[ix (((ix f.Blocks (Int.toNat (ix l i))).Term).To) j],v94_13) ⟨by dsimp only;omega,HS (by omega) hIn hcx,by dsimp only;have h9:=Rj (l:=se2) (i:=Int.toNat (ix (ix f.Blocks (Int.toNat (ix l i))).Term.To j)) (by omega) hcx.2.1;rw[List.length_append];simp;omega,by dsimp only;rw[List.length_set];exact hse2,by dsimp only;intro x hx9;rcases List.mem_append.1 hx9 with h9|h9;(· exact hq2 x h9);(simp at h9;subst h9;omega),by dsimp only;rw[List.length_append];omega⟩ (dc d0 (dc d1 dn)) (kd (kc k0 kn)) ⟨Z,Z,Z,Z,Z,Z,Z,eqI (by omega),trivial⟩
 have hcx:¬((0≤ix (ix f.Blocks (Int.toNat (ix l i))).Term.To j∧ix (ix f.Blocks (Int.toNat (ix l i))).Term.To j<se2.length)∧ix se2 (Int.toNat (ix (ix f.Blocks (Int.toNat (ix l i))).Term.To j))=false∧ix (ix f.Blocks (Int.toNat (ix l i))).Term.To j≠without):=by rintro⟨⟨a1,a2⟩,a3,a4⟩;simp[a3,a4] at hc7;omega
 refine jsk (jbn (jx (jr (jm Z (js (Ac Z Z (by omega)) (ja Z (jn ?_)))))))
 exact jag (j+1,se2,l2,vl2) ⟨by dsimp only;omega,HR (by omega) hIn hcx,hcn2,hse2,hq2,hi2⟩ (dc d0 (dc d1 dn)) (kd (kc k0 kn)) ⟨Z,Z,Z,Z,Z,Z,Z,eqI (by omega),trivial⟩
 refine jex (jtx (jtx (jbh (jbn (jx (jr (jm Z (js (Ac Z Z (by omega)) (ja Z (jn ?_))))))))))
 exact jag (i+1,se2,l2,vl2) ⟨by dsimp only;rw[hb,HN (by omega) (by omega) (show Dr _ _ _ _=(se2,l2) by rw[←hIn,List.drop_of_length_le (by omega)];rfl),show f.Blocks.length-i-1=f.Blocks.length-(i+1) by omega],by dsimp only;omega,by dsimp only;omega,hse2,hq2⟩ (dc d1 dn) (kd (kc k0 kn)) ⟨Z,Z,Z,Z,Z,eqI (by omega),trivial⟩
 refine jex (jtx (jtx (jbh (jx (jq (jr (jm Z (ja Z (jn (jx (jrt ?_)))))))))))
 exact jrG Z Z (by rw[hb];exact P8 (by omega)) k1
abbrev Js:=@Tryz.underlying167
theorem Aa8:Ag9 Tryz.prog 170:=⟨_,Tryz.underlying170,rfl⟩
theorem A62:Ag9 Tryz.prog 62:=⟨_,Tryz.underlying62,rfl⟩
theorem IU:Fld Tryz.prog 170 3 3:=⟨_,_,Tryz.underlying170,rfl,rfl,1,(by unfold Sz;kernel_rfl),by decide⟩
theorem Iv:Fld Tryz.prog 62 0 0:=⟨_,_,Tryz.underlying62,rfl,rfl,1,(by unfold Sz;kernel_rfl),by decide⟩
theorem Mg:Fld Tryz.prog 67 3 3:=⟨_,_,Tryz.underlying67,rfl,rfl,1,(by unfold Sz;kernel_rfl),by decide⟩
theorem Wf:(Tryz.prog.info? 170).map (fun i=>(i.zero,i.size,i.bytes))=some (some (.agg #[.int .i64 0,.int .i64 0,.slice none 0 0,.slice none 0 0]),4,64):=by kernel_rfl
theorem Ny:Sz Tryz.prog 170 4:=by unfold Sz;kernel_rfl
theorem j8:(Tryz.prog.info? 170).bind (·.zero)=some (.agg #[.int .i64 0,.int .i64 0,.slice none 0 0,.slice none 0 0]):=by kernel_rfl
theorem J62:(Tryz.prog.info? 62).bind (·.zero)=some (.agg #[.slice none 0 0,.slice none 0 0,.int .i64 0,.slice none 0 0,.slice none 0 0,.int .i32 0]):=by kernel_rfl
theorem AT{a0:Value}{f:D.Func}(hsz:Bw f.Blocks<1000000000):Td Tryz.prog 105 #[vFunc f a0] [da Ak (vFunc f a0) f] [] (rL Eg) (De f):=by
 refine Af (args:=[vFunc f a0]) Tryz.func105 rfl rfl rfl fun w0 X=>?_
 have htl:=Xa f
 refine jq (jr (Bj Z Z fun g1=>ja Z (jn (jx (jq (jr (Ba (r:=Eg) (l:=[]) Js Wf (by decide) Z Z Z ln fun g10=>ja Z (jn (jx ?_)))))))))
 refine jq (jq (jr (ja Z (jn (jx (jb ?_))))))
 refine jlp (u3 fun(k:Nat) (vo:Value) (out:List D.Tg3)=>⟨k≤f.Blocks.length∧De f=out++blL k (f.Blocks.drop k),[da Ak (vFunc f a0) f],[gl X.n Eg 170 vo out,bx g1 49 [.int .i64 f.Params,a0]],[(1,.pointer (some ⟨g1,0,none⟩)),(2,.slice none 0 0),(3,vo),(4,.int .i64 (↑k))],f.Blocks.length-k⟩) (0,(.slice (some ⟨g10,0,none⟩) 0 0),[]) ⟨Nat.zero_le _,rfl⟩ (dc d0 dn) (kd kn) ⟨Z,Z,Z,eqI (by omega),trivial⟩ ?_
 rintro⟨k,vo,out⟩;dsimp only[u3];rintro⟨hk,hB⟩
 refine cgo k0 fun w1=>?_
 have hpl1:=G8 hB
 refine jq (jq (jr (jm Z (js (jf Cq Z) (js (jl k1 O47 Z Z) (jdq (Ak.cB d0) fun q2 w2=>js (jln U47 (Ak.cB d0) Z) (js (Ai Z Z) (jn (jx ?_)))))))))
 refine jif Z (fun hc1=>?_) (fun hc1=>?_)
 refine jsk (jx (jq (jb (jq (jr (js (jf Cq Z) (js (jl k1 O47 Z Z) (jm Z (js (jix U47 Z62 (Ak.cB d0) Z Z Z (by omega)) (jA4 Sf (jlA (dix (Ak.cB d0) k (by omega)) A62 Z62 Z) fun c22a c22b c22c c22d=>Bg J62 Z fun g5=>?_))))))))))
 refine jdq (Ah.cP d0) fun q4 w4=>jdq (Ah.cI d0) fun q5 w5=>jdq (Ah.c_Term_Args d0) fun q6 w6=>jdq (Ah.c_Term_To d0) fun q7 w7=>Az k0 Z62 Z Z Z ⟨w4.one,w5.one,Z,w6.one,w7.one,Z,trivial⟩ (saf Z) (jn (jx (jq (jq (jr (ja Z (jn ?_)))))))
 refine jx (jb ?_)
 refine jlp (u3 fun(i:Nat) (vp:Value) (out2:List D.Tg3)=>⟨i≤(ix f.Blocks k).Phis.length∧De f=out2++(phL k i ((ix f.Blocks k).Phis.drop i)++(inL k 0 (ix f.Blocks k).Ins++(enT k (ix f.Blocks k)::blL (k+1) (f.Blocks.drop (k+1))))),[da Ah (vBlock (ix f.Blocks k) (c22a,c22b,c22c,c22d)) (ix f.Blocks k),da Ak (vFunc f a0) f],[bx g5 62 [c22a,c22b,.int .i64 (((ix f.Blocks k).Term).Kind),c22c,c22d,.int .i32 (((ix f.Blocks k).Term).Imm)],gl X.n Eg 170 vp out2,bx g1 49 [.int .i64 f.Params,a0]],[(1,.pointer (some ⟨g1,0,none⟩)),(2,.slice none 0 0),(3,vp),(4,.int .i64 (↑k)),(5,.pointer (some ⟨g5,0,none⟩)),(6,.int .i64 (↑i))],(ix f.Blocks k).Phis.length-i⟩) (0,vo,out) ⟨Nat.zero_le _,ZY (by omega) hB⟩ (dc d0 (dc d1 dn)) (kd (kc k0 kn)) ⟨Z,Z,Z,Z,Z,eqI (by omega),trivial⟩ ?_
 rintro⟨i,vp,out2⟩;dsimp only[u3];rintro⟨hi,hP⟩
 refine cgo k1 fun w8=>?_
 have hpl2:=G8 hP
 refine jq (jq (jr (jm Z (js (jf Iv Z) (js (jl k0 O57 Z Z) (js (jln U57 (Ah.cP d0) Z) (js (Ai Z Z) (jn (jx ?_)))))))))
 refine jif Z (fun hc2=>?_) (fun hc2=>?_)
 refine jsk (jx (jq (jb (jq (jr (jm Z (jm Z (js (Gg Z Z (by omega)) (js (jf Iv Z) (js (jl k0 O57 Z Z) (jm Z ?_)))))))))))
 refine js (jix U57 Z65 (Ah.cP d0) Z Z Z (by omega)) (js (jf Pf Z) (js (jlI (As.A_Dst (dix (Ah.cP d0) i (by omega))) O3 Z) (Ba (r:=(rI .i64)) (l:=[(ix ((ix f.Blocks k).Phis) i).Dst]) U22 I3 (by decide) Z Z Z (lV Z Z (wI (wad (As.A_Dst (dix (Ah.cP d0) i (by omega))))) ln) fun g39=>js (jbu (v := .agg #[.int .i64 (↑k),.int .i64 ((-1)-↑i),(.slice (some ⟨g39,0,none⟩) 1 1),.slice none 0 0]) Z (fun _=>by kernel_rfl)) (Bg j8 Z fun g7=>Az k0 Ny Z Z Z ⟨Z,Z,Z,Z,trivial⟩ (saf Z) (jn (jx (jq (jq (jr ?_)))))))))
 refine ja Z (jn (jx (jb (cnl (r:=(rI .i64)) (E:=3) ?_))))
 refine jlp (u3 fun(j:Nat) (ea:List Int) (ve:Value)=>⟨j≤(ix (ix f.Blocks k).Phis i).In.length∧ea=((ix (ix f.Blocks k).Phis i).In.take j).map (·.Val),[da Ah (vBlock (ix f.Blocks k) (c22a,c22b,c22c,c22d)) (ix f.Blocks k),da Ak (vFunc f a0) f],[gl X.n (rI .i64) 3 ve ea,bx g7 170 [.int .i64 (↑k),.int .i64 ((-1)-↑i),(.slice (some ⟨g39,0,none⟩) 1 1),ve],gl X.n (rI .i64) 3 (.slice (some ⟨g39,0,none⟩) 1 1) ([(ix ((ix f.Blocks k).Phis) i).Dst]),bx g5 62 [c22a,c22b,.int .i64 (((ix f.Blocks k).Term).Kind),c22c,c22d,.int .i32 (((ix f.Blocks k).Term).Imm)],gl X.n Eg 170 vp out2,bx g1 49 [.int .i64 f.Params,a0]],[(1,.pointer (some ⟨g1,0,none⟩)),(2,.slice none 0 0),(3,vp),(4,.int .i64 (↑k)),(5,.pointer (some ⟨g5,0,none⟩)),(6,.int .i64 (↑i)),(7,.pointer (some ⟨g7,0,none⟩)),(8,.int .i64 (↑j))],(ix (ix f.Blocks k).Phis i).In.length-j⟩) (0,[],.slice none 0 0) ⟨Nat.zero_le _,rfl⟩ (dc d0 (dc d1 dn)) (kd (kd (kd kn))) ⟨Z,Z,Z,Z,Z,Z,Z,eqI (by omega),trivial⟩ ?_
 rintro⟨j,ea,ve⟩;dsimp only[u3];rintro⟨hj,hea⟩
 refine cgo k0 fun w9=>?_
 have hel:ea.length=j:=by rw[hea];simp;omega
 refine jq (jq (jr (jm Z (js (jf Iv Z) (js (jl k3 O57 Z Z) (jm Z (js (jix U57 Z65 (Ah.cP d0) Z Z Z (by omega)) (js (jf Ld Z) (jev (jlV (As.A_In (dix (Ah.cP d0) i (by omega))) O63 Z Z) fun v47 q10 w10=>js (jln U63 d0 Z) (js (Ai Z Z) ?_))))))))))
 refine jn (jx ?_)
 refine jif Z (fun hc3=>?_) (fun hc3=>?_)
 refine jsk (jx (jq (jb (Cp true (.a 0 (.a 1 (.a 2 (.a 3 (.a 4 (.a 5 (.a 6 (.a 7 (.a 8 (.a 9 (.a 10 (.a 11 (.o 12 (.o 13 (.a 14 (.o 15 .e)))))))))))))))) Bh (by kernel_rfl) (kc k1 (kc k2 kn)) fun F12=>jy Z (jf IU Z) (jy Z (jl k0 O22 Z Z) (jy Z (jf Iv Z) (jy Z (jl k1 O57 Z Z) (jy Z (jmv Z) (jy Z (jix U57 Z65 (Ah.cP d1) Z Z Z (by omega)) (jy Z (jf Ld Z) ?_))))))))))
 refine jye (q:=fun v=>dv (rL rIn) v ((ix ((ix f.Blocks k).Phis) i).In)) Z (xlV (As.A_In (dix (Ah.cP d1) i (by omega))) O63 Z Z) fun v59=>jy Z (jmv Z) (adq d0 fun q14 w14=>jy Z (jix U63 Jr d0 Z Z Z (by omega)) (jy Z (jf Wl Z) (jy Z (jlI (rIn.A_Val (dix d0 j (by omega))) O3 Z) (jyo Z (Ba (r:=(rI .i64)) (l:=[(ix ((ix ((ix f.Blocks k).Phis) i).In) j).Val]) U22 I3 (by decide) Z Z Z (lV Z Z (wI (wad (rIn.A_Val (dix d1 j (by omega))))) ln) fun g64=>jyn d0 (kc k2 (kc k3 kn)) (jyo Z (jfz k0 (by(try simp)<;>omega) (Ev U22 I3 (by decide) Z k0 Z Z d0 (by(try simp)<;>omega) fun v65 w18=>?_))))))))
 refine jyn d1 (kc k1 (kc k2 kn)) (jy Z (jf IU Z) (jyo Z (jst k1 Z22 Z Z w18.one s3 (jyz d0 (jyd (jbn (jx (jr (jm Z (js (Ac Z Z (by omega)) (ja Z ?_)))))))))))
 refine jn ?_
 exact jag (j+1,ea++([(ix ((ix ((ix f.Blocks k).Phis) i).In) j).Val]),v65) ⟨by dsimp only;omega,by dsimp only;rw[hea,DV (by omega)]⟩ (dc d6 (dc d7 dn)) (kc k1 (kd (kd (kc k0 kn)))) ⟨Z,Z,Z,Z,Z,Z,Z,eqI (by omega),trivial⟩
 refine jex (jtx (jtx (jbh (jx (jr (jm Z (js (jla k1 Aa8 Ny Z Z Z) (jfz k2 (by(try simp)<;>omega) (jfz k0 (by omega) (jap Js Wf (by decide) Z k2 Z (Eg.M (m:=⟨↑k,(-1)-↑i,[(ix ((ix f.Blocks k).Phis) i).Dst],ea⟩) (c:=((.slice (some ⟨g39,0,none⟩) 1 1),ve)) d1 d0 (wp (IntWalk.i64_in ↑k (by omega))) (wp (IntWalk.i64_in ((-1)-↑i) (by omega)))) (by omega) (fun _=>Z) fun v70 _ w22=>ja Z ?_))))))))))
 refine jn (jbn (jx (jr (jm Z (js (Ac Z Z (by omega)) (ja Z (jn ?_)))))))
 exact jag (i+1,v70,out2++[⟨((k:Nat):Int),(-1)-((i:Nat):Int),[(ix ((ix f.Blocks k).Phis) i).Dst],ea⟩]) ⟨by dsimp only;omega,by dsimp only;rw[show ea=(ix (ix f.Blocks k).Phis i).In.map (·.Val) by rw[hea,List.take_of_length_le (by omega)]];exact PX (by omega) hP⟩ (dc d3 (dc d4 dn)) (kc k2 (kc k0 (kc k1 kn))) ⟨Z,Z,Z,Z,Z,eqI (by omega),trivial⟩
 refine jex (jtx (jtx (jbh (jx (jq (jq (jr (ja Z (jn (jx (jb ?_)))))))))))
 refine jlp (u3 fun(j:Nat) (vq:Value) (out4:List D.Tg3)=>⟨j≤(ix f.Blocks k).Ins.length∧De f=out4++(inL k j ((ix f.Blocks k).Ins.drop j)++(enT k (ix f.Blocks k)::blL (k+1) (f.Blocks.drop (k+1)))),[da Ah (vBlock (ix f.Blocks k) (c22a,c22b,c22c,c22d)) (ix f.Blocks k),da Ak (vFunc f a0) f],[bx g5 62 [c22a,c22b,.int .i64 (((ix f.Blocks k).Term).Kind),c22c,c22d,.int .i32 (((ix f.Blocks k).Term).Imm)],gl X.n Eg 170 vq out4,bx g1 49 [.int .i64 f.Params,a0]],[(1,.pointer (some ⟨g1,0,none⟩)),(2,.slice none 0 0),(3,vq),(4,.int .i64 (↑k)),(5,.pointer (some ⟨g5,0,none⟩)),(9,.int .i64 (↑j))],(ix f.Blocks k).Ins.length-j⟩) (0,vp,out2) ⟨Nat.zero_le _,PW (by omega) hP⟩ (dc d0 (dc d1 dn)) (kd (kc k0 kn)) ⟨Z,Z,Z,Z,Z,eqI (by omega),trivial⟩ ?_
 rintro⟨j,vq,out4⟩;dsimp only[u3];rintro⟨hj,hI⟩
 refine cgo k1 fun w23=>?_
 have hpl4:=G8 hI
 refine jq (jq (jr (jm Z (js (jf Hf Z) (js (jl k0 O58 Z Z) (js (jln U58 (Ah.cI d0) Z) (js (Ai Z Z) (jn (jx ?_)))))))))
 refine jif Z (fun hc4=>?_) (fun hc4=>?_)
 refine jsk (jx (jq (jb (Cp false (.a 0 (.a 1 (.a 2 (.a 3 (.a 4 (.a 5 (.a 6 (.a 7 (.a 9 (.a 10 (.a 11 (.a 12 (.a 13 (.a 14 (.o 8 (.a 15 (.o 16 (.o 17 (.a 18 .e))))))))))))))))))) Bh (by kernel_rfl) (kc k0 kn) fun F24=>jy Z (jmv Z) (jy Z (jmv Z) (jy Z (jmv Z) (jy Z (jf Hf Z) (jy Z (jl k0 O58 Z Z) (jy Z (jmv Z) (jy Z (jix U58 Z67 (Ah.cI d0) Z Z Z (by omega)) ?_))))))))))
 refine jyA Se Z (xlA (dix (Ah.cI d0) j (by omega)) A67 Z67 Z) fun c85=>jy Z (jf Hf Z) (jy Z (jl k0 O58 Z Z) (jy Z (jmv Z) (jy Z (jix U58 Z67 (Ah.cI d1) Z Z Z (by omega)) (jy Z (jf Mg Z) (jye (q:=fun v=>dv (rL (rI .i64)) v ((ix ((ix f.Blocks k).Ins) j).Args)) Z (xlV (Ae.A_Args (dix (Ah.cI d1) j (by omega))) O22 Z Z) fun v92=>jyo Z (jcd E66 Z Z Xp (dc d2 dn) kn fun v86 q28 w28=>jyn d1 (kc k0 kn) (adq d2 fun q30 w30=>jy Z (jbu (v := .agg #[.int .i64 (↑k),.int .i64 (↑j),v86,v92]) Z (fun _=>by obtain⟨_,_,_,rfl⟩:=w28;obtain⟨_,_,_,rfl⟩:=w30;kernel_rfl)) ?_)))))))
 refine jyo Z (Ba (r:=Eg) (l:=[⟨↑k,↑j,Aw (ix ((ix f.Blocks k).Ins) j),(ix ((ix f.Blocks k).Ins) j).Args⟩]) Js Wf (by decide) Z Z Z (lA (Eg.M (m:=⟨↑k,↑j,Aw (ix ((ix f.Blocks k).Ins) j),(ix ((ix f.Blocks k).Ins) j).Args⟩) (c:=(v86,v92)) d1 d3 (wp (IntWalk.i64_in ↑k (by omega))) (wp (IntWalk.i64_in ↑j (by omega)))) ln) fun g94=>jyn d0 (kc k1 kn) (jyo Z (jfz k0 (by(try simp)<;>omega) (Ev Js Wf (by decide) Z k1 Z Z d0 (by(try simp)<;>omega) fun v95 w34=>jyn d1 (kc k1 kn) (jy Z (jas Z) (jyd (jbn (jx (jr ?_)))))))))
 refine jm Z (js (Ac Z Z (by omega)) (ja Z (jn ?_)))
 exact jag (j+1,v95,out4++([⟨((k:Nat):Int),((j:Nat):Int),Aw (ix ((ix f.Blocks k).Ins) j),(ix ((ix f.Blocks k).Ins) j).Args⟩])) ⟨by dsimp only;omega,by dsimp only;exact WJ (by omega) hI⟩ (dc d7 (dc d8 dn)) (kc k1 (kd kn)) ⟨Z,Z,Z,Z,Z,eqI (by omega),trivial⟩
 refine jex (jtx (jtx (jbh (jx (jr (jm Z (jm Z (js (jf Hf Z) (js (jl k0 O58 Z Z) (js (jln U58 (Ah.cI d0) Z) (js (jf He Z) ?_)))))))))))
 refine js (jf Le Z) (js (jl k0 O22 Z Z) (js (jbu (v := .agg #[.int .i64 (↑k),.int .i64 (↑(List.length ((ix f.Blocks k).Ins))),.slice none 0 0,c22c]) Z (fun _=>by obtain⟨_,_,_,rfl⟩:=w6;kernel_rfl)) (jap Js Wf (by decide) Z k1 Z (Eg.M (m:=⟨↑k,↑(List.length ((ix f.Blocks k).Ins)),[],((ix f.Blocks k).Term).Args⟩) (c:=(.slice none 0 0,c22c)) wN (Ah.c_Term_Args d0) (wp (IntWalk.i64_in ↑k (by omega))) (wp (IntWalk.i64_in (↑(List.length ((ix f.Blocks k).Ins))) (by omega)))) (by omega) (fun _=>Z) fun v106 _ w35=>ja Z (jn (jbn (jx (jr (jm Z (js (Ac Z Z (by omega)) (ja Z ?_))))))))))
 refine jn ?_
 exact jag (k+1,v106,out4++[⟨((k:Nat):Int),((List.length ((ix f.Blocks k).Ins):Nat):Int),[],((ix f.Blocks k).Term).Args⟩]) ⟨by dsimp only;omega,by dsimp only;exact ZX (WI (by omega) hI)⟩ (dc d1 dn) (kc k0 (kc k1 kn)) ⟨Z,Z,Z,eqI (by omega),trivial⟩
 refine jex (jtx (jtx (jbh (jx (jq (jr (jm Z (ja Z (jn (jx (jrt ?_)))))))))))
 refine qfz k0 (by omega) ?_
 exact jrD Z Z (by rw[hB,List.drop_of_length_le (by omega)];simp[blL]) d0
theorem A49:Ag9 Tryz.prog 49:=⟨_,Tryz.underlying49,rfl⟩
theorem JK:Ent Tryz.prog 105:=⟨_,Tryz.func105,by kernel_rfl,by kernel_rfl⟩
theorem E65:Ent Tryz.prog 65:=⟨_,Tryz.func65,by kernel_rfl,by kernel_rfl⟩
theorem IV:Fld Tryz.prog 170 0 0:=⟨_,_,Tryz.underlying170,rfl,rfl,1,(by unfold Sz;kernel_rfl),by decide⟩
theorem Up:Fld Tryz.prog 170 2 2:=⟨_,_,Tryz.underlying170,rfl,rfl,1,(by unfold Sz;kernel_rfl),by decide⟩
theorem Nc:Fld Tryz.prog 49 0 0:=⟨_,_,Tryz.underlying49,rfl,rfl,1,(by unfold Sz;kernel_rfl),by decide⟩
theorem Z49:Sz Tryz.prog 49 2:=by unfold Sz;kernel_rfl
theorem OM{a0:Value}{f:D.Func}(block:Int)(hb9:0≤block∧block<f.Blocks.length)(hsz:Bw f.Blocks<100000000)(hpr:0≤f.Params∧f.Params≤4):Tg Tryz.prog 69 #[vFunc f a0,.int .i64 block] [da Ak (vFunc f a0) f] [] (rI .i64) 3 (Ch f block):=by
 refine Af (args:=[vFunc f a0,.int .i64 block]) Tryz.func69 rfl rfl rfl fun w0 X=>?_
 have htl:=Xa f
 refine jq (jr (Bj Z Z fun g2=>ja Z (jn (jx (jq (jr (Ba (r:=(rI .i64)) (l:=[]) U22 I3 (by decide) Z Z Z ln fun g11=>ja Z (jn (jx ?_)))))))))
 refine jq (jq (jr (ja Z (jn (jx (jb ?_))))))
 refine jlp (u3 fun(i:Nat) (vo:Value) (out:List Int)=>⟨i≤f.Params.toNat∧out=Ka i,[da Ak (vFunc f a0) f],[gl X.n (rI .i64) 3 vo out,bx g2 49 [.int .i64 f.Params,a0]],[(1,.int .i64 block),(2,.pointer (some ⟨g2,0,none⟩)),(4,.slice none 0 0),(5,vo),(6,.int .i64 (↑i))],f.Params.toNat-i⟩) (0,(.slice (some ⟨g11,0,none⟩) 0 0),[]) ⟨Nat.zero_le _,rfl⟩ (dc d0 dn) (kd kn) ⟨Z,Z,Z,Z,eqI (by omega),trivial⟩ ?_
 rintro⟨i,vo,out⟩;dsimp only[u3];rintro⟨hi,ho⟩
 refine cgo k0 fun w1=>?_
 have hol:out.length=i:=by rw[ho];exact Vl i
 refine jq (jq (jr (jm Z (js (jf Nc Z) (js (jl k1 O3 Z Z) (js (Ai Z Z) (jn (jx ?_))))))))
 refine jif Z (fun hc1=>?_) (fun hc1=>?_)
 refine jsk (jx (jq (jb (jr (jm Z (jm Z (Hz U22 I3 (by decide) Z Z k0 Z (wI (wp (IntWalk.i64_in _ (by omega)))) (by omega) (fun _=>Z) fun v21 _ w2=>ja Z (jn (jbn (jx ?_))))))))))
 refine jr (jm Z (js (Ac Z Z (by omega)) (ja Z (jn ?_))))
 exact jag (i+1,v21,out++[((i:Nat):Int)]) ⟨by dsimp only;omega,by dsimp only;rw[ho,DK]⟩ (dc d0 dn) (kd kn) ⟨Z,Z,Z,Z,eqI (by omega),trivial⟩
 refine jex (jtx (jtx (jbh (jx (jq (jr (js (jla k1 A49 Z49 Z Z Z) (jcd JK Z Z (AT (by omega)) (dc d0 dn) kn fun v23 q3 w3=>ja Z (jn (jx ?_))))))))))
 refine jq (jq (jr (ja Z (jn (jx (jb ?_))))))
 refine jlp (u3 fun(i2:Nat) (v2:Value) (o2:List Int)=>⟨i2≤(De f).length∧o2=Ka f.Params.toNat++Ll f block ((De f).take i2),[dv (rL Eg) v23 (De f),da Ak (vFunc f a0) f],[gl X.n (rI .i64) 3 v2 o2,bx g2 49 [.int .i64 f.Params,a0]],[(1,.int .i64 block),(2,.pointer (some ⟨g2,0,none⟩)),(4,.slice none 0 0),(5,v2),(7,v23),(8,.int .i64 (↑i2))],(De f).length-i2⟩) (0,vo,out) ⟨Nat.zero_le _,by dsimp only;rw[ho,show i=f.Params.toNat by omega];simp[Ll]⟩ (dc d0 (dc d1 dn)) (kd kn) ⟨Z,Z,Z,Z,Z,eqI (by omega),trivial⟩ ?_
 rintro⟨i2,v2,o2⟩;dsimp only[u3];rintro⟨hi2,ho2⟩
 refine cgo k0 fun w5=>?_
 have hs2:=X5 (f:=f) (b:=block) (l:=(De f).take i2) (fun t ht=>Wz f t (List.mem_of_mem_take ht))
 have ho2l:o2.length≤4+2*i2:=by rw[ho2,List.length_append,Vl];rw[List.length_take] at hs2;omega
 refine jq (jq (jr (jm Z (jm Z (js (jln Js d0 Z) (js (Ai Z Z) (jn (jx ?_))))))))
 refine jif Z (fun hc2=>?_) (fun hc2=>?_)
 refine jsk (jx (jq (jb (jq (jr (ja Z (jn (jx (jq (jq (jr ?_)))))))))))
 refine jm Z (jm Z (js (jix Js Ny d0 Z Z Z (by omega)) (js (jf IV Z) (js (jlI (Eg.A_Block (dix d0 i2 (by omega))) O3 Z) (jm Z (js (Gz Z Z) (jn (jx ?_))))))))
 refine jif Z (fun hc3=>?_) (fun hc3=>?_)
 refine jq (jtl 6 Bh (by kernel_rfl) (jt (jla k1 A49 Z49 Z Z Z) (jt (jmv Z) (jt (jmv Z) (jt (jix Js Ny d0 Z Z Z (by omega)) (jt (jf IV Z) (jt (jlI (Eg.A_Block (dix d0 i2 (by omega))) O3 Z) (jtt (jcg E65 Z Z (AU ((ix (De f) i2).Block)) (dc d1 dn) kn fun v43 w6=>ja Z (jn ?_))))))))))
 refine jx (jr (jm Z (jm Z ?_)))
 have hrl:=Xo f (ix (De f) i2).Block
 refine js (jig (i:=block.toNat) Fj Z4 k0 Z Z (by omega) (by omega)) (js (jgB k0 (by omega) O4 Z) (js (Dv Z) (ja Z (jn (jx (jq (jr (jm Z (jn (jx ?_))))))))))
 refine jif Z (fun hc4=>?_) (fun hc4=>?_)
 refine jr (jm Z (jm Z (jm Z (js (jix Js Ny d0 Z Z Z (by omega)) (js (jf Up Z) (jev (jlV (Eg.A_Makes (dix d0 i2 (by omega))) O22 Z Z) fun v55 q7 w7=>?_))))))
 have hm2:=Wz f _ (Ax (l:=De f) (i:=i2) (by omega))
 refine Ev U22 I3 (by decide) Z k1 Z Z d0 (by(try simp)<;>omega) fun v56 w9=>ja Z (jn (jbn (jx (jr (jm Z (js (Ac Z Z (by omega)) (ja Z (jn ?_))))))))
 exact jag (i2+1,v56,o2++((ix (De f) i2).Makes)) ⟨by dsimp only;omega,by dsimp only;rw[E3 (by omega),ho2];rw[if_pos (by simp[Ry,hc3,hc4])];simp⟩ (dc d1 (dc d2 dn)) (kc k0 (kc k1 kn)) ⟨Z,Z,Z,Z,Z,eqI (by omega),trivial⟩
 refine jsk (jbn (jx (jr (jm Z (js (Ac Z Z (by omega)) (ja Z (jn ?_)))))))
 exact jag (i2+1,v2,o2) ⟨by dsimp only;omega,by dsimp only;rw[E3 (by omega),ho2];rw[if_neg (by simp[Ry,hc3,hc4])];simp⟩ (dc d0 (dc d1 dn)) (kc k1 (kc k1 kn)) ⟨Z,Z,Z,Z,Z,eqI (by omega),trivial⟩
 refine jsk (jx (jq (jr (jm Z (jn (jx ?_))))))
 refine jif Z (fun hc5=>?_) (fun hc5=>?_)
 refine jr (jm Z (jm Z (jm Z (js (jix Js Ny d0 Z Z Z (by omega)) (js (jf Up Z) (jev (jlV (Eg.A_Makes (dix d0 i2 (by omega))) O22 Z Z) fun v55_10 q11 w11=>?_))))))
 have hm2:=Wz f _ (Ax (l:=De f) (i:=i2) (by omega))
 refine Ev U22 I3 (by decide) Z k0 Z Z d0 (by(try simp)<;>omega) fun v56_13 w14=>ja Z (jn (jbn (jx (jr (jm Z (js (Ac Z Z (by omega)) (ja Z (jn ?_))))))))
 exact jag (i2+1,v56_13,o2++((ix (De f) i2).Makes)) ⟨by dsimp only;omega,by dsimp only;rw[E3 (by omega),ho2];rw[if_pos (by simp[Ry,hc3,hc5])];simp⟩ (dc d1 (dc d2 dn)) (kd kn) ⟨Z,Z,Z,Z,Z,eqI (by omega),trivial⟩
 exact absurd hc5 (by simp)
 refine jex (jtx (jtx (jbh (jx (jq (jr (jm Z (ja Z (jn (jx (jrt ?_)))))))))))
 exact jrG Z Z (by rw[ho2,List.take_of_length_le (by omega)];rfl) k0
theorem J31:(Tryz.prog.info? 31).bind (·.zero)=some (.agg #[.slice none 0 0,.slice none 0 0,.slice none 0 0,.int .i64 0]):=by kernel_rfl
theorem OO{a0:Value}{s:List Int}:Ts Tryz.prog 34 #[a0] [dv (rL (rI .i64)) a0 s] [] Cc vInput (Gq s):=by
 refine Af (args:=[a0]) Tryz.func34 rfl rfl rfl fun w0 X=>?_
 refine jq (jr (Bg J31 Z fun g2=>jn (jx (jq (jr (jm Z (jdq d0 fun q1 w1=>js (jbu (v := .agg #[a0,.int .i64 0,.int .i64 0,.slice none 0 0,.int .i64 0,.slice none 0 0]) Z (fun _=>by obtain⟨_,_,_,rfl⟩:=w1;kernel_rfl)) (Bj Z Z fun g11=>Yn (c:=0) ⟨s,0,0,[],0,[]⟩ k0 ⟨H8 _,Z⟩ fun mm0 hmm0 omm0 bmm0=>?_))))))))
 refine ja Z (jn (jx (jq (jr (js (jbu (v := .agg #[.slice none 0 0,.slice none 0 0,.slice none 0 0,.int .i64 300]) Z (fun _=>by kernel_rfl)) (Bg J31 Z fun g4=>Az k0 Z31 Z Z Z ⟨Z,Z,Z,Z,trivial⟩ (saf Z) (jn (jx (jq (jq ?_))))))))))
 refine jr (ja Z (jn (jx (jb (cnl (r:=(rI .i32)) (E:=21) ?_)))))
 refine jlp (u4 fun(ia:Nat) (la:List Int) (va:Value) (ma:Mk)=>⟨ia≤4∧Ie 4 [] mm0=Ie (4-ia) la ma∧la.length=ia∧okS 0 (0+2*ia) s ma,[dv (rL (rI .i64)) a0 s],[gl X.n (rI .i32) 21 va la,bx g4 31 [va,.slice none 0 0,.slice none 0 0,.int .i64 300],bx g11 108 [a0,.int .i64 ma.k,.int .i64 ma.par,(.slice none 0 0),.int .i64 ma.nx,(.slice none 0 0)],bx g2 31 [.slice none 0 0,.slice none 0 0,.slice none 0 0,.int .i64 0]],[(2,.pointer (some ⟨g2,0,none⟩)),(3,.pointer (some ⟨g11,0,none⟩)),(4,.pointer (some ⟨g4,0,none⟩)),(5,.int .i64 (↑ia))],4-ia⟩) (0,[],.slice none 0 0,mm0) ⟨Nat.zero_le _,rfl,rfl,omm0.mono (by omega)⟩ (dc d0 dn) (kd (kd kn)) ⟨Z,Z,Z,eqI (by omega),trivial⟩ ?_
 rintro⟨ia,la,va,ma⟩;dsimp only[u4];rintro⟨hia,hRa,hla,okL1⟩
 refine cgo k0 fun w2=>?_
 have bdL1:=okM.bnd okL1.1
 clear bmm0
 refine jq (jq (jr (jm Z (js (Ai Z Z) (jn (jx ?_))))))
 refine jif Z (fun hc1=>?_) (fun hc1=>?_)
 refine jsk (jx (jq (jb (Cp true (.a 0 (.a 1 (.a 2 (.o 3 (.o 4 (.o 5 (.a 6 (.o 7 .e)))))))) Bh (by kernel_rfl) (kc k1 kn) fun F3=>jy Z (jf Wj Z) (jy Z (jl k0 O29 Z Z) (jy Z (jmv Z) (jyo Z (jka E71 Z Z (Pq okL1 (by omega)) (dc d1 dn) k2 ⟨Lj okL1.1,okL1.2⟩ fun m20 hm20 om20 bm20=>?_))))))))
 have w20_0:IntKind.i32.wrap (Ar ma)=Ar ma:=(Pg ma)
 clear bdL1
 refine jyn d0 (kc k2 kn) (jyo Z (Ba (r:=(rI .i32)) (l:=[Ar ma]) U29 I21 (by decide) Z Z Z (lV Z Z (wI (wp w20_0)) ln) fun g21=>jyn d0 (kc k3 kn) (jyo Z (jfz k0 (by(try simp)<;>omega) (Ev U29 I21 (by decide) Z k1 Z Z d0 (by(try simp)<;>omega) fun v22 w8=>jyn d1 (kc k2 kn) (jy Z (jf Wj Z) (jyo Z (jst k2 Z29 Z Z w8.one s0 (jyz d0 ?_)))))))))
 refine jyd (jbn (jx (jr (jm Z (js (Ac Z Z (by omega)) (ja Z (jn ?_)))))))
 exact jag (ia+1,la++([Ar ma]),v22,m20) ⟨by dsimp only;omega,by dsimp only;rw[hm20];exact B9 (by omega) hRa,by simp;omega,om20.mono (by omega)⟩ (dc d5 dn) (kc k1 (kd (kc k0 kn))) ⟨Z,Z,Z,eqI (by omega),trivial⟩
 refine jex (jtx (jtx (jbh (jx (jq (jr (jm Z (jka E47 Z Z (Du okL1 (by omega) 13 (by first|decide|omega)) (dc d0 dn) k2 ⟨tO9 okL1.1,okL1.2⟩ fun m25 hm25 om25 bm25=>?_))))))))
 have w25_0:IntKind.i64.wrap (tVV 13 ma)=tVV 13 ma:=(IntWalk.i64_in _ (by have h9:=@tV9 13 (by omega) ma;omega))
 have tr25:=@tV9 13 (by omega) ma
 clear bdL1
 refine js (Ac Z Z (by omega)) (ja Z (jn (jx (jq (jq (jr (ja Z (jn (jx (jb (cnl (r:=(rI .i32)) (E:=21) ?_)))))))))))
 refine jlp (u4 fun(ib:Nat) (lb:List Int) (vb:Value) (mb:Mk)=>⟨ib≤(4+(tVV 13 ma)).toNat∧Ie (4+(tVV 13 ma)).toNat [] m25=Ie ((4+(tVV 13 ma)).toNat-ib) lb mb∧lb.length=ib∧okS 0 (0+2*ia+1+2*ib) s mb,[dv (rL (rI .i64)) a0 s],[gl X.n (rI .i32) 21 vb lb,bx g11 108 [a0,.int .i64 mb.k,.int .i64 mb.par,(.slice none 0 0),.int .i64 mb.nx,(.slice none 0 0)],gl X.n (rI .i32) 21 va la,bx g4 31 [va,vb,.slice none 0 0,.int .i64 300],bx g2 31 [.slice none 0 0,.slice none 0 0,.slice none 0 0,.int .i64 0]],[(2,.pointer (some ⟨g2,0,none⟩)),(3,.pointer (some ⟨g11,0,none⟩)),(4,.pointer (some ⟨g4,0,none⟩)),(6,.int .i64 (4+(tVV 13 ma))),(7,.int .i64 (↑ib))],(4+(tVV 13 ma)).toNat-ib⟩) (0,[],.slice none 0 0,m25) ⟨Nat.zero_le _,rfl,rfl,om25.mono (by omega)⟩ (dc d0 dn) (kd (kd (kc k0 kn))) ⟨Z,Z,Z,Z,eqI (by omega),trivial⟩ ?_
 rintro⟨ib,lb,vb,mb⟩;dsimp only[u4];rintro⟨hib,hRb,hlb,okL2⟩
 refine cgo k0 fun w10=>?_
 have bdL2:=okM.bnd okL2.1
 clear bm25
 refine jq (jq (jr (jm Z (jm Z (js (Ai Z Z) (jn (jx ?_)))))))
 refine jif Z (fun hc2=>?_) (fun hc2=>?_)
 refine jsk (jx (jq (jb (Cp true (.a 0 (.a 1 (.a 2 (.o 3 (.o 4 (.o 5 (.a 6 (.o 7 .e)))))))) Bh (by kernel_rfl) (kc k3 kn) fun F11=>jy Z (jf Zx Z) (jy Z (jl k0 O29 Z Z) (jy Z (jmv Z) (jyo Z (jka E71 Z Z (Pq okL2 (by omega)) (dc d1 dn) k1 ⟨Lj okL2.1,okL2.2⟩ fun m35 hm35 om35 bm35=>?_))))))))
 have w35_0:IntKind.i32.wrap (Ar mb)=Ar mb:=(Pg mb)
 clear bdL2
 refine jyn d0 (kc k3 kn) (jyo Z (Ba (r:=(rI .i32)) (l:=[Ar mb]) U29 I21 (by decide) Z Z Z (lV Z Z (wI (wp w35_0)) ln) fun g36=>jyn d0 (kc k4 kn) (jyo Z (jfz k0 (by(try simp)<;>omega) (Ev U29 I21 (by decide) Z k1 Z Z d0 (by(try simp)<;>omega) fun v37 w16=>jyn d1 (kc k3 kn) (jy Z (jf Zx Z) (jyo Z (jst k3 Z29 Z Z w16.one s1 (jyz d0 ?_)))))))))
 refine jyd (jbn (jx (jr (jm Z (js (Ac Z Z (by omega)) (ja Z (jn ?_)))))))
 exact jag (ib+1,lb++([Ar mb]),v37,m35) ⟨by dsimp only;omega,by dsimp only;rw[hm35];exact B9 (by omega) hRb,by simp;omega,om35.mono (by omega)⟩ (dc d5 dn) (kc k1 (kc k1 (kc k1 (kd kn)))) ⟨Z,Z,Z,Z,eqI (by omega),trivial⟩
 refine jex (jtx (jtx (jbh (jx (jq (jr (jm Z (jka E47 Z Z (Du okL2 (by omega) 7 (by first|decide|omega)) (dc d0 dn) k1 ⟨tO9 okL2.1,okL2.2⟩ fun m40 hm40 om40 bm40=>?_))))))))
 have w40_0:IntKind.i64.wrap (tVV 7 mb)=tVV 7 mb:=(IntWalk.i64_in _ (by have h9:=@tV9 7 (by omega) mb;omega))
 have tr40:=@tV9 7 (by omega) mb
 clear bdL2
 refine ja Z (jn (jx (jq (jq (jr (ja Z (jn (jx (jb (cnl (r:=(rI .i32)) (E:=21) ?_))))))))))
 refine jlp (u4 fun(ic:Nat) (lc:List Int) (vc:Value) (mc:Mk)=>⟨ic≤(tVV 7 mb).toNat∧Ie (tVV 7 mb).toNat [] m40=Ie ((tVV 7 mb).toNat-ic) lc mc∧lc.length=ic∧okS 0 (0+2*ia+1+2*ib+1+2*ic) s mc,[dv (rL (rI .i64)) a0 s],[gl X.n (rI .i32) 21 vc lc,bx g11 108 [a0,.int .i64 mc.k,.int .i64 mc.par,(.slice none 0 0),.int .i64 mc.nx,(.slice none 0 0)],gl X.n (rI .i32) 21 vb lb,gl X.n (rI .i32) 21 va la,bx g4 31 [va,vb,vc,.int .i64 300],bx g2 31 [.slice none 0 0,.slice none 0 0,.slice none 0 0,.int .i64 0]],[(2,.pointer (some ⟨g2,0,none⟩)),(3,.pointer (some ⟨g11,0,none⟩)),(4,.pointer (some ⟨g4,0,none⟩)),(6,.int .i64 (tVV 7 mb)),(8,.int .i64 (↑ic))],(tVV 7 mb).toNat-ic⟩) (0,[],.slice none 0 0,m40) ⟨Nat.zero_le _,rfl,rfl,om40.mono (by omega)⟩ (dc d0 dn) (kd (kd (kd kn))) ⟨Z,Z,Z,Z,eqI (by omega),trivial⟩ ?_
 rintro⟨ic,lc,vc,mc⟩;dsimp only[u4];rintro⟨hic,hRc,hlc,okL3⟩
 refine cgo k0 fun w18=>?_
 have bdL3:=okM.bnd okL3.1
 clear bm40
 refine jq (jq (jr (jm Z (jm Z (js (Ai Z Z) (jn (jx ?_)))))))
 refine jif Z (fun hc3=>?_) (fun hc3=>?_)
 refine jsk (jx (jq (jb (Cp true (.a 0 (.a 1 (.a 2 (.o 3 (.o 4 (.o 5 (.a 6 (.o 7 .e)))))))) Bh (by kernel_rfl) (kc k4 kn) fun F19=>jy Z (jf Zw Z) (jy Z (jl k0 O29 Z Z) (jy Z (jmv Z) (jyo Z (jka E71 Z Z (Pq okL3 (by omega)) (dc d1 dn) k1 ⟨Lj okL3.1,okL3.2⟩ fun m49 hm49 om49 bm49=>?_))))))))
 have w49_0:IntKind.i32.wrap (Ar mc)=Ar mc:=(Pg mc)
 clear bdL3
 refine jyn d0 (kc k4 kn) (jyo Z (Ba (r:=(rI .i32)) (l:=[Ar mc]) U29 I21 (by decide) Z Z Z (lV Z Z (wI (wp w49_0)) ln) fun g50=>jyn d0 (kc k5 kn) (jyo Z (jfz k0 (by(try simp)<;>omega) (Ev U29 I21 (by decide) Z k1 Z Z d0 (by(try simp)<;>omega) fun v51 w24=>jyn d1 (kc k4 kn) (jy Z (jf Zw Z) (jyo Z (jst k4 Z29 Z Z w24.one s2 (jyz d0 ?_)))))))))
 refine jyd (jbn (jx (jr (jm Z (js (Ac Z Z (by omega)) (ja Z (jn ?_)))))))
 exact jag (ic+1,lc++([Ar mc]),v51,m49) ⟨by dsimp only;omega,by dsimp only;rw[hm49];exact B9 (by omega) hRc,by simp;omega,om49.mono (by omega)⟩ (dc d5 dn) (kc k1 (kc k1 (kc k1 (kc k1 (kd kn))))) ⟨Z,Z,Z,Z,eqI (by omega),trivial⟩
 refine jex (jtx (jtx (jbh (jx (jq (jr (js (jla k4 A31 Z31 Z Z Z) (Az k5 Z31 Z Z Z ⟨w2.one,w10.one,w18.one,Z,trivial⟩ (saf Z) (jn (jx (jrt ?_)))))))))))
 refine qfz k4 (by omega) (qfz k3 (by omega) (qfz k1 (by omega) ?_))
 exact Ky (val:=vInput) (b:=⟨la,lb,lc,300⟩) (c:=(va,vb,vc)) Z Z k0 A31 Z31 Z (by have ea:=B8 (by omega) hRa;have eb:=B8 (by omega) hRb;have ec:=B8 (by omega) hRc;simp only[hmm0,hm25,hm40] at ea eb ec;simp only[Gq,ea,eb,ec]) (Cc.M (m:=⟨la,lb,lc,300⟩) (c:=(va,vb,vc)) d2 d1 d0 (wl 300))
theorem PM{Γ:List Dt}{L:List Res}{m:D.Phi}{u:Value}{l:List D.In}(h:Nd Γ L (dv (rL rIn) u l)):PO Γ L As m 1 [u] { m with In:=l }:=fun F H a b c f hf =>
 ⟨⟨hf.1.1,hf.1.2⟩,(rL rIn).ext (fun i hi=>by rw[show i=0 from Nat.lt_one_iff.1 hi];rfl) (show(rL rIn).ok F l (fun _=>u) from h F H a b c)⟩
theorem Bz{α:Type}[Inhabited α]{l:List α}{i j:Nat}{a:α}(hj:j<l.length):ix (l.set j a) i=if i=j then a else ix l i:=by
 by_cases h:i=j
 ·subst h;rw[if_pos rfl];simp[ix,hj]
 ·rw[if_neg h];simp[ix,List.getElem?_set_ne (Ne.symm h)]
def fnM(m:Mk):D.Func:=⟨m.par,m.bs⟩
def Va(b:Nat)(l:List Int)(m:Mk):Mk:={ m with bs:=m.bs.set b { (ix m.bs b) with Term:={ (ix m.bs b).Term with To:=l } } }
def toS(to:List (List Int)):Nat→Nat→Mk→Mk
 | 0,_,m=>m
 | k+1,b,m=>toS to k (b+1) (Va b (ix to b) m)
def My(b:Nat)(m:Mk):Mk:={ (Aq m) with bs:=(Aq m).bs.set b { (ix (Aq m).bs b) with Phis:=(ix (Aq m).bs b).Phis++[⟨m.nx,[]⟩] } }
def Hy(b:Nat):Nat→Mk→Mk
 | 0,m=>m
 | k+1,m=>Hy b k (My b m)
def Fp(b:Nat)(ph:List Int)(m:Mk):List Int :=
 if 1<(pd3 (fnM m) b).length then ph.set b (tVV 4 m) else if tVV 6 m=0 then ph.set b 1 else ph
def Gb:Nat→Nat→List Int→Mk→List Int×Mk
 | 0,_,ph,m=>(ph,m)
 | k+1,b,ph,m=>Gb k (b+1) (Fp b ph m) (Hy b (ix (Fp b ph m) b).toNat (tSS m))
def Qb(f:D.Func)(a:Nat):List (List Bool):=(List.range a).map (fun(i:Nat)=>Fb f (i:Int))
def okA(f:D.Func)(dn:List Bool)(b a:Nat):Bool:=decide (a=b)||(ix dn a||ix (Fb f (a:Int)) b)
def Lt(f:D.Func)(dn:List Bool)(b a:Nat):Bool:=!(ix dn b)&&(List.range a).all (fun i=>okA f dn b i)
def Sb(f:D.Func)(dn:List Bool)(b a:Nat):Bool:=!(decide (a=b))&&(!(ix dn a)||ix (Fb f (a:Int)) b)
def lvB(f:D.Func)(dn:List Bool)(b a:Nat):List Int:=if Sb f dn b a then [] else (ix f.Blocks a).Phis.map (·.Dst)++(ix f.Blocks a).Ins.flatMap Aw
def lvF(f:D.Func)(dn:List Bool)(b a:Nat):List Int:=Ka f.Params.toNat++(List.range a).flatMap (fun i=>lvB f dn b i)
def Kd(b:Nat):Nat→Mk→Mk
 | 0,m=>m
 | k+1,m=>Kd b k (Ce b m)
def lvM(n b:Nat)(dn:List Bool)(m:Mk):Mk:={ m with lv:=lvF (fnM m) dn b n }
def Jp(n:Nat)(to:List (List Int))(b:Nat)(dn:List Bool)(m:Mk):Mk:=Co b (ix to b) (Kd b (tVV 7 (lvM n b dn m)).toNat (tSS (lvM n b dn m)))
def Fl(n:Nat)(to:List (List Int)):Nat→Nat→List Bool→Mk→List Bool×Mk
 | 0,_,dn,m=>(dn,m)
 | k+1,b,dn,m=>if Lt (fnM m) dn b n then Fl n to k (b+1) (dn.set b true) (Jp n to b (dn.set b true) m) else Fl n to k (b+1) dn m
def Gv(n:Nat)(to:List (List Int)):Nat→List Bool→Mk→List Bool×Mk
 | 0,dn,m=>(dn,m)
 | k+1,dn,m=>Gv n to k (Fl n to n 0 dn m).1 (Fl n to n 0 dn m).2
def inX(p:Int)(m:Mk):D.In×Mk :=
 if (Ch (fnM m) p).length=0 then (⟨p,ix [(Cb m).nx] (tVV 1 (Bk p (Ar m) (Cb m))).toNat⟩,tSS (Bk p (Ar m) (Cb m)))
 else (⟨p,ix (Ch (fnM m) p) (tVV (Ch (fnM m) p).length m).toNat⟩,tSS m)
def inS(p:List Int):Nat→Nat→List D.In→Mk→List D.In×Mk
 | 0,_,l,m=>(l,m)
 | c+1,k,l,m=>inS p c (k+1) (l++[(inX (ix p k) m).1]) (inX (ix p k) m).2
def Ol(b i:Nat)(l:List D.In)(m:Mk):Mk:={ m with bs:=m.bs.set b { (ix m.bs b) with Phis:=(ix m.bs b).Phis.set i { (ix (ix m.bs b).Phis i) with In:=l } } }
def inP(p:List Int)(b:Nat):Nat→Nat→Mk→Mk
 | 0,_,m=>m
 | c+1,i,m=>inP p b c (i+1) (Ol b i (inS p p.length 0 [] m).1 (inS p p.length 0 [] m).2)
def Ho(ph:List Int):Nat→Nat→Mk→Mk
 | 0,_,m=>m
 | c+1,b,m=>Ho ph c (b+1) (inP (pd3 (fnM m) b) b (ix ph b).toNat 0 m)
def mdP(m:Mk):Mk:={ (tSS m) with par:=tVV 5 m }
def mdX(m:Mk):Mk:={ (mdP m) with nx:=(mdP m).par }
def md0(s:List Int):Mk:=mdX ⟨s,0,0,[],0,[]⟩
def mdN(s:List Int):Int:=1+tVV 9 (md0 s)
def mdT(s:List Int):List (List Int)×Mk:=Cs (mdN s) (tSS (md0 s))
def mdB(s:List Int):Mk:=toS (mdT s).1 (mdN s).toNat 0 { (mdT s).2 with bs:=List.replicate (mdN s).toNat default }
def mdH(s:List Int):List Int×Mk:=Gb ((mdN s).toNat-1) 1 (List.replicate (mdN s).toNat 0) (mdB s)
def mdD(s:List Int):List Bool×Mk:=Gv (mdN s).toNat (mdT s).1 (mdN s).toNat (List.replicate (mdN s).toNat false) (mdH s).2
def mdF(s:List Int):Mk:=Ho (mdH s).1 ((mdN s).toNat-1) 1 (mdD s).2
def Am(s:List Int):D.Func:=fnM (mdF s)
theorem b8(f:D.Func)(a:Nat):Qb f (a+1)=Qb f a++[Fb f (a:Int)]:=by simp[Qb,List.range_succ]
theorem HT(f:D.Func)(a:Nat):(Qb f a).length=a:=by simp[Qb]
theorem HU(f:D.Func){n a:Nat}(h:a<n):ix (Qb f n) a=Fb f (a:Int):=by rw[Bn (by rw[HT];exact h)];simp[Qb]
theorem NT(f:D.Func)(dn:List Bool)(b a:Nat):Lt f dn b (a+1)=(Lt f dn b a&&okA f dn b a):=by simp[Lt,List.range_succ,Bool.and_assoc]
theorem J6(f:D.Func)(dn:List Bool)(b a:Nat):lvF f dn b (a+1)=lvF f dn b a++lvB f dn b a:=by simp[lvF,List.range_succ]
theorem FV{l:List D.Ins}:(l.flatMap Aw).length≤2*l.length:=by
 induction l with
 | nil=>simp
 | cons x l ih=>rw[List.flatMap_cons,List.length_append,List.length_cons];have:=Sx x;omega
theorem Zi:∀{l:List D.Block} {k:Nat},k<l.length→Bw (l.take (k+1))=Bw (l.take k)+((ix l k).Phis.length+(ix l k).Ins.length+1)
 | x::l,0,_=>by simp[Bw,Ia]
 | x::l,k+1,h=>by rw[List.take_succ_cons,List.take_succ_cons,Bw,Bw,Iq,Zi (l:=l) (k:=k) (by simpa using h)];omega
theorem Vz:∀(l:List D.Block) (k:Nat),Bw (l.take k)≤Bw l
 | [],k=>by simp[Bw]
 | x::l,0=>by simp[Bw]
 | x::l,k+1=>by rw[List.take_succ_cons,Bw,Bw];have:=Vz l k;omega
theorem J7{f:D.Func}{dn:List Bool}{b:Nat}:∀{a:Nat},a≤f.Blocks.length→(lvF f dn b a).length≤f.Params.toNat+2*Bw (f.Blocks.take a)
 | 0,_=>by simp[lvF,Vl,Bw]
 | a+1,h=>by
  have h1:=J7 (f:=f) (dn:=dn) (b:=b) (a:=a) (by omega)
  rw[J6,List.length_append,Zi (by omega)]
  have h2:(lvB f dn b a).length≤(ix f.Blocks a).Phis.length+2*(ix f.Blocks a).Ins.length:=by
   unfold lvB;split
   ·simp
   ·rw[List.length_append,List.length_map];have:=FV (l:=(ix f.Blocks a).Ins);omega
  omega
theorem AM{ph:List Int}{b:Nat}{x:Int}(h:∀j,0≤ix ph j∧ix ph j≤3)(hx:0≤x∧x≤3):∀j,0≤ix (ph.set b x) j∧ix (ph.set b x) j≤3:=by
 intro j
 by_cases e:b<ph.length
 ·rw[Bz e];split
  ·exact hx
  ·exact h j
 ·rw[List.set_eq_of_length_le (by omega)];exact h j
theorem Xn{n:Nat}:∀j,0≤ix (List.replicate n (0:Int)) j∧ix (List.replicate n (0:Int)) j≤3:=by
 intro j;by_cases h:j<n<;>simp[ix,h]
def pl(m:Mk):List Nat:=m.bs.map (fun x=>x.Phis.length)
theorem Xr{m:Mk}{j:Nat}{b:D.Block}(h:b.Phis.length=(ix m.bs j).Phis.length):(m.bs.set j b).map (fun x=>x.Phis.length)=pl m:=by
 unfold pl
 by_cases hj:j<m.bs.length
 ·rw[List.map_set]
  refine List.ext_getElem (by simp) (fun i h1 h2=>?_)
  rw[List.getElem_set]
  split
  ·rename_i e;subst e;rw[h,Bn hj];simp
  ·rfl
 ·rw[List.set_eq_of_length_le (by omega)]
theorem Jz{b:Int}{i:D.Ins}{m:Mk}:pl (Ca b i m)=pl m:=Xr (m:=m) rfl
theorem Ku{b n:Int}{m:Mk}:pl (Bk b n m)=pl m:=Jz (m:=Aq m)
theorem BH{m:Mk}:pl (Cr m)=pl m:=by unfold Cr;split<;>rfl
theorem Lu{b:Int}{m:Mk}:pl (sS9 b m)=pl m:=by
 have h0:pl (Dj m)=pl m:=by unfold Dj;split;exact BH;exact BH
 unfold sS9;split
 ·exact Ku.trans h0
 ·exact h0
theorem BN{b:Int}{m:Mk}:pl (Bp b m).2=pl m:=by
 unfold Bp;dsimp only;split
 ·exact Jz.trans (Jz.trans (Ku.trans (Lu.trans (Ku (m:=tSS m)))))
 ·exact Ku (m:=tSS m)
theorem BM{m:Mk}:pl (mem2 m).2=pl m:=by unfold mem2;dsimp only;split<;>rfl
theorem PN{b:Int}{s:Bool}{m:Mk}:pl (Cd b s m)=pl m:=by
 unfold Cd;dsimp only;split
 ·exact Jz.trans (Lu.trans (BM.trans BN))
 ·exact(Jz (m:=Aq _)).trans (BM.trans BN)
theorem BX{b:Int}:∀(n:Nat) (l:List Int) (m:Mk),pl (Em b n l m).2=pl m
 | 0,_,_=>rfl
 | n+1,l,m=>(BX n _ _).trans Lu
theorem BP{b:Int}{m:Mk}:pl (Ce b m)=pl m:=by
 have h2:pl (sS9 b (sS9 b (tSS m)))=pl m:=Lu.trans (Lu (m:=tSS m))
 unfold Ce;dsimp only
 repeat' split
 ·exact(Jz (m:=Aq _)).trans ((Ku (m:=tSS (tSS _))).trans h2)
 ·exact(Jz (m:=Aq (tSS _))).trans h2
 ·exact(Jz (m:=Aq _)).trans h2
 ·exact(Jz (m:=Aq _)).trans ((Ku (m:=tSS (tSS _))).trans ((Ku (m:=tSS _)).trans (Lu (m:=tSS m))))
 ·exact(Jz (m:=Aq (tSS _))).trans ((Ku (m:=tSS _)).trans (Lu (m:=tSS m)))
 ·exact PN (m:=tSS m)
 ·exact(Jz (m:=tSS (Aq _))).trans (BX _ _ _)
 ·exact(Jz (m:=Aq (Aq _))).trans h2
 ·exact Ku (m:=Cb (tSS m))
theorem Qs{b:Int}{t:D.Term}{m:Mk}:pl (setT b t m)=pl m:=Xr (m:=m) rfl
theorem BW{b:Int}{l:List Int}{m:Mk}:pl (Co b l m)=pl m:=by
 unfold Co;dsimp only
 repeat' split
 ·exact Qs (m:=tSS (tSS m))
 ·exact Qs.trans (Lu (m:=tSS m))
 ·exact Qs (m:=tSS m)
 ·exact Qs
 ·exact Qs.trans ((Jz (m:=tSS (Aq _))).trans ((Lu (m:=tSS _)).trans Lu))
 ·exact(Qs (m:=tSS _)).trans Lu
 ·exact Qs.trans ((Jz (m:=Aq _)).trans (Ku.trans Lu))
theorem BO{b:Nat}:∀(n:Nat) (m:Mk),pl (Kd b n m)=pl m
 | 0,_=>rfl
 | n+1,m=>(BO n _).trans BP
theorem BL{b i:Nat}{l:List D.In}{m:Mk}:pl (Ol b i l m)=pl m:=Xr (m:=m) (by simp)
theorem Sk{m m':Mk}(h:pl m=pl m')(j:Nat):(ix m.bs j).Phis.length=(ix m'.bs j).Phis.length:=by
 have hl:m.bs.length=m'.bs.length:=by have:=congrArg List.length h;simpa[pl] using this
 by_cases hj:j<m.bs.length
 ·have h1:(pl m).getD j 0=(pl m').getD j 0:=by rw[h]
  simpa[pl,List.getD,hj,hl▸hj,ix] using h1
 ·have hj':¬j<m'.bs.length:=by omega
  simp[ix,hj,hj']
theorem BF{f:D.Func}{b:Int}:∀x∈pd3 f b,0≤x∧x<f.Blocks.length:=by
 have:∀k,∀x∈Jy f.Blocks k b,0≤x∧x<k:=by
  intro k
  induction k with
  | zero=>intro x hx;cases hx
  | succ k ih =>
   intro x hx
   rw[Jy] at hx
   rcases List.mem_append.1 hx with h|h
   ·have:=ih x h;omega
   ·split at h
    ·simp at h;subst h;omega
    ·cases h
 exact this _
theorem BG(f:D.Func)(b:Int):(pd3 f b).length≤f.Blocks.length:=G3 _ _ _
theorem XG{l:List D.Ins}{k:Nat}(hk:k<l.length):(l.take (k+1)).flatMap Aw=(l.take k).flatMap Aw++Aw (ix l k):=by rw[Ff hk];simp
def Pp(b:Nat)(ph:List Int)(m:Mk):Prop:=(∀j,(ix m.bs j).Phis.length=if j<b then (ix ph j).toNat else 0)∧∀j,b≤j→ix ph j=0
theorem BZ{m m':Mk}{n:Nat}(h:pl m=pl m')(h2:m'.bs=List.replicate n default):Pp 1 (List.replicate n 0) m:=by
 have h0:∀j,ix (List.replicate n (0:Int)) j=0:=fun j=>by by_cases hj:j<n<;>simp[ix,hj]
 refine⟨fun j=>?_,fun j _=>h0 j⟩
 rw[Sk h,h2,h0]
 have:(ix (List.replicate n (default:D.Block)) j)=default:=by by_cases hj:j<n<;>simp[ix,hj]
 rw[this];split<;>rfl
theorem j1{b:Nat}{m:Mk}(hb:b<m.bs.length)(j:Nat):(ix (My b m).bs j).Phis.length=(ix m.bs j).Phis.length+if j=b then 1 else 0:=by
 show(ix (m.bs.set b _) j).Phis.length=_
 rw[Bz hb]
 split
 ·rename_i e;subst e;simp[Aq]
 ·rfl
theorem CE{b:Nat}:∀(k:Nat) (m:Mk),b<m.bs.length→∀j,(ix (Hy b k m).bs j).Phis.length=(ix m.bs j).Phis.length+if j=b then k else 0
 | 0,m,_,j=>by simp[Hy]
 | k+1,m,hb,j=>by
  rw[Hy,CE k (My b m) (by simpa[My,Aq] using hb) j,j1 hb]
  split<;>omega
theorem BY{b:Nat}{ph ph':List Int}{m:Mk}(h:Pp b ph m)(hb:b<m.bs.length)(hl:b<ph.length)(hp:ph'=Fp b ph m):Pp (b+1) ph' (Hy b (ix ph' b).toNat (tSS m)):=by
 have hne:∀j,j≠b→ix ph' j=ix ph j:=fun j hj=>by
  rw[hp];unfold Fp;(repeat' split)<;>first|rfl|(rw[Bz hl,if_neg hj])
 refine⟨fun j=>?_,fun j hj=>by rw[hne j (by omega)];exact h.2 j (by omega)⟩
 rw[CE _ _ (by exact hb) j]
 show(ix m.bs j).Phis.length+_=_
 rw[h.1 j]
 by_cases e:j=b
 ·subst e;rw[if_neg (by omega),if_pos rfl,if_pos (by omega)];omega
 ·rw[if_neg e,hne j e]
  by_cases e2:j<b
  ·rw[if_pos e2,if_pos (by omega)];rfl
  ·rw[if_neg e2,if_neg (by omega)]
theorem BK{b:Nat}{l:List Int}{m:Mk}:pl (Va b l m)=pl m:=Xr (m:=m) rfl
theorem LN(f:D.Func)(b:Int):(Ch f b).length≤f.Params.toNat+2*Bw f.Blocks:=by
 have h:∀l:List D.Tg3,(∀t∈l,t.Makes.length≤2)→(Ll f b l).length≤2*l.length:=by
  intro l
  induction l with
  | nil=>intro _;simp[Ll]
  | cons x l ih =>
   intro hl
   have h1:=ih (fun t ht=>hl t (List.mem_cons_of_mem _ ht))
   have h2:=hl x (List.mem_cons_self ..)
   unfold Ll at h1 ⊢
   rw[List.flatMap_cons,List.length_append,List.length_cons]
   split
   ·omega
   ·simp only[List.length_nil];omega
 have h3:=h (De f) (Wz f)
 rw[Xa] at h3
 unfold Ch
 rw[List.length_append,Vl];omega
theorem H4{b:Nat}{ph:List Int}{m:Mk}(h:∀j,0≤ix ph j∧ix ph j≤3):∀j,0≤ix (Fp b ph m) j∧ix (Fp b ph m) j≤3:=by
 have h4:=tV9 (n:=4) (by omega) m
 unfold Fp;split
 ·exact AM h (by omega)
 split
 ·exact AM h (by omega)
 ·exact h
theorem CD{b:Nat}{ph:List Int}{m:Mk}:(Fp b ph m).length=ph.length:=by unfold Fp;(repeat' split)<;>simp
structure Mq where
 s:List Int
 k:Int
 nx:Int
 l:List D.Mach
def Ck(n:Int)(m:Mq):Int:=Int.tmod (Int.tmod (if m.k<m.s.length then ix m.s m.k.toNat else 0) n+n) n
def Df(m:Mq):Mq:={ m with k:=m.k+1 }
def Cz(m:Mq):Mq:={ m with nx:=m.nx+1 }
def Fh(i:D.Mach)(m:Mq):Mq:={ m with l:=m.l++[i] }
def Bd(r:Int)(m:Mq):Int:=if 0<Ck 4 m then r else m.nx
def Bv(r:Int)(m:Mq):Mq:=if 0<Ck 4 m then Df m else Fh ⟨1,m.nx,0,r,0,0,0,[]⟩ (Cz (Df m))
def Sa(n:Int):Bool:=decide (-32768≤n)&&decide (n<32768)
def Hg(n:Int)(m:Mq):Mq:=if Sa n then Df m else m
def Ea(d n:Int)(m:Mq):Mq:=if Sa n=true∧Ck 2 m=0 then Fh ⟨3,d,0,0,0,0,n,[]⟩ (Hg n m) else Fh ⟨4,d,0,0,0,0,n,[]⟩ (Hg n m)
def opQ(x:D.Ins)(d a b:Int):D.Mach:=⟨x.Op-2+5,d,0,a,b,0,0,[]⟩
def Er(x:D.Ins)(a b:Int)(m:Mq):Mq :=
 if Ck 6 m=0 then Fh ⟨18,x.Dst,0,m.nx+1,0,0,-100,[]⟩ (Fh ⟨18,m.nx+1,0,m.nx,0,0,100,[]⟩ (Fh (opQ x m.nx a b) (Cz (Cz (Df m)))))
 else if Ck 6 m=1 then Fh ⟨20,x.Dst,0,m.nx,0,0,0,[]⟩ (Fh (opQ x m.nx a b) (Cz (Df m)))
 else if Ck 6 m=2∧x.Op=4 then Fh ⟨23,x.Dst,0,a,b,m.nx,0,[]⟩ (Ea m.nx 0 (Cz (Df m)))
 else Fh (opQ x x.Dst a b) (Df m)
def Ep(x:D.Ins)(m:Mq):Mq:=Er x (Bd (ix x.Args 0) m) (Bd (ix x.Args 1) (Bv (ix x.Args 0) m)) (Bv (ix x.Args 1) (Bv (ix x.Args 0) m))
def Md(n:Int):Bool:=decide (0≤n)&&decide (n≤255)
def Dm(n:Int)(m:Mq):Mq:=if Md n then Df m else m
def Hm(x:D.Ins)(a:Int)(m:Mq):Mq :=
 if Md x.Imm=true∧0<Ck 3 m then (if x.Op=15 then Fh ⟨24,x.Dst,0,a,0,0,x.Imm,[]⟩ (Df m) else Fh ⟨26,0,0,a,ix x.Args 1,0,x.Imm,[]⟩ (Df m))
 else if x.Op=15 then Fh ⟨25,x.Dst,0,a,m.nx,0,0,[]⟩ (Ea m.nx x.Imm (Cz (Dm x.Imm m)))
 else Fh ⟨27,0,0,a,m.nx,ix x.Args 1,0,[]⟩ (Ea m.nx x.Imm (Cz (Dm x.Imm m)))
def Kb(x:D.Ins)(m:Mq):Mq:=Hm x (Bd (ix x.Args 0) m) (Bv (ix x.Args 0) m)
def Da(x:D.Ins)(m:Mq):Mq :=
 if x.Op=1 then Ea x.Dst x.Imm m
 else if x.Op=15∨x.Op=16 then Kb x m
 else if x.Op=17 then Fh ⟨28,x.Dst,0,0,0,0,x.Imm,x.Args⟩ m
 else if x.Op=18 then Fh ⟨29,x.Dst,x.Two,ix x.Args 0,ix x.Args 1,0,0,[]⟩ m
 else Ep x m
def Bt(t:D.Term)(m:Mq):D.End :=
 if t.Kind=1 then ⟨1,0,0,t.To,t.Imm⟩
 else if t.Kind=2 then
  (if 1<Ck 4 m then ⟨2,ix t.Args 0,0,t.To,t.Imm⟩
  else if Ck 4 m=1 then ⟨3,m.nx,ix t.Args 0,[ix t.To 1,ix t.To 0],t.Imm⟩
  else ⟨5,m.nx,ix t.Args 0,t.To,t.Imm⟩)
 else if t.Kind=3 then ⟨6,ix t.Args 0,0,t.To,t.Imm⟩
 else if t.Kind=4 then (if t.Args.length=0 then ⟨7,-1,0,t.To,t.Imm⟩ else ⟨7,Bd (ix t.Args 0) m,0,t.To,t.Imm⟩)
 else ⟨8,0,0,t.To,t.Imm⟩
def Cl(t:D.Term)(m:Mq):Mq :=
 if t.Kind=2 then (if 1<Ck 4 m then Df m else Ea m.nx 0 (Cz (Df m)))
 else if t.Kind=4∧t.Args.length≠0 then Bv (ix t.Args 0) m
 else m
def okQ(nb c:Nat)(m:Mq):Prop:=(0≤m.k∧m.k≤c)∧(0≤m.nx∧m.nx≤nb+c)∧m.l.length≤c∧nb≤1000000
theorem okQ.bnd{nb c:Nat}{m:Mq}(h:okQ nb c m):0≤m.k∧m.k≤c∧0≤m.nx∧m.nx≤nb+c∧m.l.length≤c∧nb≤1000000:=⟨h.1.1,h.1.2,h.2.1.1,h.2.1.2,h.2.2.1,h.2.2.2⟩
theorem okQ.mono{nb c c':Nat}{m:Mq}(h:okQ nb c m)(hc:c≤c'):okQ nb c' m:=by unfold okQ at *;omega
theorem okQ.setk{nb c c':Nat}{m:Mq}{x:Int}(h:okQ nb c m)(hx:0≤x∧x≤c')(hc:c≤c'):okQ nb c' { m with k:=x }:=⟨hx,(h.mono hc).2⟩
theorem okQ.setnx{nb c c':Nat}{m:Mq}{x:Int}(h:okQ nb c m)(hx:0≤x∧x≤nb+c')(hc:c≤c'):okQ nb c' { m with nx:=x }:=⟨(h.mono hc).1,hx,(h.mono hc).2.2⟩
theorem okQ.setl{nb c c':Nat}{m:Mq}{x:List D.Mach}(h:okQ nb c m)(hx:x.length≤c')(hc:c≤c'):okQ nb c' { m with l:=x }:=⟨(h.mono hc).1,(h.mono hc).2.1,hx,h.2.2.2⟩
theorem RE{s:List Int}{n:Int}{nb:Nat}(h:0≤n∧n≤nb)(hb:nb≤1000000):okQ nb 0 ⟨s,0,n,[]⟩:=by unfold okQ;simp;omega
section
variable{nb c:Nat}{m:Mq}
theorem Ih(h:okQ nb c m):okQ nb (c+1) (Df m):=h.setk (by have:=h.bnd;omega) (by omega)
theorem Ju(h:okQ nb c m):okQ nb (c+1) (Cz m):=h.setnx (by have:=h.bnd;omega) (by omega)
theorem Ek{i:D.Mach}(h:okQ nb c m):okQ nb (c+1) (Fh i m):=h.setl (by have:=h.bnd;simp;omega) (by omega)
theorem Qa{r:Int}(h:okQ nb c m):okQ nb (c+3) (Bv r m):=by
 unfold Bv;split
 ·exact(Ih h).mono (by omega)
 ·exact Ek (Ju (Ih h))
theorem JT{n:Int}(h:okQ nb c m):okQ nb (c+1) (Hg n m):=by unfold Hg;split;exact Ih h;exact h.mono (by omega)
theorem Pi{d n:Int}(h:okQ nb c m):okQ nb (c+2) (Ea d n m):=by
 unfold Ea;split<;>exact Ek (JT h)
theorem KV{x:D.Ins}{a b:Int}(h:okQ nb c m):okQ nb (c+6) (Er x a b m):=by
 unfold Er
 repeat' split
 ·exact Ek (Ek (Ek (Ju (Ju (Ih h)))))
 ·exact(Ek (Ek (Ju (Ih h)))).mono (by omega)
 ·exact(Ek (Pi (Ju (Ih h)))).mono (by omega)
 ·exact(Ek (Ih h)).mono (by omega)
theorem U8{x:D.Ins}(h:okQ nb c m):okQ nb (c+12) (Ep x m):=KV (Qa (Qa h))
theorem SC{x:D.Ins}{a:Int}(h:okQ nb c m):okQ nb (c+5) (Hm x a m):=by
 have h1:okQ nb (c+1) (Dm x.Imm m):=by unfold Dm;split;exact Ih h;exact h.mono (by omega)
 unfold Hm
 repeat' split
 ·exact(Ek (Ih h)).mono (by omega)
 ·exact(Ek (Ih h)).mono (by omega)
 all_goals exact Ek (Pi (Ju h1))
theorem J0{x:D.Ins}(h:okQ nb c m):okQ nb (c+8) (Kb x m):=SC (Qa h)
theorem WF{x:D.Ins}(h:okQ nb c m):okQ nb (c+12) (Da x m):=by
 unfold Da
 repeat' split
 ·exact(Pi h).mono (by omega)
 ·exact(J0 h).mono (by omega)
 ·exact(Ek h).mono (by omega)
 ·exact(Ek h).mono (by omega)
 ·exact U8 h
theorem YH{t:D.Term}(h:okQ nb c m):okQ nb (c+4) (Cl t m):=by
 unfold Cl
 repeat' split
 ·exact(Ih h).mono (by omega)
 ·exact Pi (Ju (Ih h))
 ·exact(Qa h).mono (by omega)
 ·exact h.mono (by omega)
theorem Nh{n:Int}(hn:0<n)(m:Mq):0≤Ck n m∧Ck n m<n:=by
 unfold Ck
 generalize (if m.k<m.s.length then ix m.s m.k.toNat else 0)=x
 have h1:=Int.lt_tmod_of_pos x hn
 exact⟨Int.tmod_nonneg _ (by omega),Int.tmod_lt_of_pos _ hn⟩
theorem E1:(Df m).s=m.s:=rfl
theorem E0:(Cz m).s=m.s:=rfl
theorem Gx{i:D.Mach}:(Fh i m).s=m.s:=rfl
theorem Pz{r:Int}:(Bv r m).s=m.s:=by unfold Bv;split<;>rfl
theorem JS{n:Int}:(Hg n m).s=m.s:=by unfold Hg;split<;>rfl
theorem Ph{d n:Int}:(Ea d n m).s=m.s:=by unfold Ea;split<;>exact JS
theorem KU{x:D.Ins}{a b:Int}:(Er x a b m).s=m.s:=by
 unfold Er;(repeat' split)<;>first|rfl|(simp only[Gx,Ph,E0,E1])
theorem U7{x:D.Ins}:(Ep x m).s=m.s:=KU.trans (Pz.trans Pz)
theorem RZ{n:Int}:(Dm n m).s=m.s:=by unfold Dm;split<;>rfl
theorem SB{x:D.Ins}{a:Int}:(Hm x a m).s=m.s:=by
 unfold Hm;(repeat' split)<;>first|rfl|(simp only[Gx,Ph,E0,E1,RZ])
theorem I9{x:D.Ins}:(Kb x m).s=m.s:=SB.trans Pz
theorem WE{x:D.Ins}:(Da x m).s=m.s:=by
 unfold Da;(repeat' split)<;>first|rfl|exact Ph|exact I9|exact U7
theorem YG{t:D.Term}:(Cl t m).s=m.s:=by
 unfold Cl;(repeat' split)<;>first|rfl|exact Pz|(simp only[Gx,Ph,E0,E1])
end
theorem Py{Γ:List Dt}{L:List Res}{α β:Type}{r:Rp α}(vl:α→β→Value){a a':α}{c:β}(e:a'=a)(h:Nd Γ L (da r (vl a c) a)):Nd Γ L (da r (vl a' c) a'):=by subst e;exact h
abbrev Ez(nb c:Nat)(S:List Int)(m:Mq):Prop:=okQ nb c m∧m.s=S
abbrev Uf(nb c:Nat)(m:Mq):Prop:=0≤m.k∧m.k≤c∧0≤m.nx∧m.nx≤nb+c∧m.l.length≤c∧nb≤1000000
theorem Ez.mono{nb c c':Nat}{S:List Int}{m:Mq}(h:Ez nb c S m)(hc:c≤c'):Ez nb c' S m:=⟨okQ.mono h.1 hc,h.2⟩
abbrev mcq(m:Mq)(vs al:Value):List Value:=[vs,.int .i64 m.k,.int .i64 m.nx,al]
abbrev KAq(P:Program)(f:FuncId)(args:List Value)(D0:List Dt)(g:Nat)(vs al:Value)(S:List Int)(m st:Mq)(val:Value):Prop :=
 Tr P f (.pointer (some ⟨g,0,none⟩)::args).toArray (dv (rL (rI .i64)) vs S::D0) [bx g 139 (mcq m vs al)] (fun _:Unit=>val) (fun _=>[]) (fun _ _=>[bx g 139 (mcq st vs al)])
abbrev KEq{α β:Type}(P:Program)(f:FuncId)(args:List Value)(D0:List Dt)(g:Nat)(vs al:Value)(S:List Int)(B:Nat)(r:Rp α)(vl:α→β→Value)(a:α)(m st:Mq):Prop :=
 Tr P f (.pointer (some ⟨g,0,none⟩)::args).toArray (dv (rL (rI .i64)) vs S::D0) [bx g 139 (mcq m vs al),gl B Al 24 al m.l] (fun p:Value×β=>vl a p.2) (fun p=>[da r (vl a p.2) a]) (fun _ p=>[bx g 139 (mcq st vs p.1),gl B Al 24 p.1 st.l])
abbrev KBq(P:Program)(f:FuncId)(args:List Value)(D0:List Dt)(g:Nat)(vs al:Value)(S:List Int)(B:Nat)(E:List Dt)(m st:Mq)(val:Value):Prop :=
 Tr P f (.pointer (some ⟨g,0,none⟩)::args).toArray (dv (rL (rI .i64)) vs S::D0) [bx g 139 (mcq m vs al),gl B Al 24 al m.l] (fun _:Value=>val) (fun _=>E) (fun _ p=>[bx g 139 (mcq st vs p),gl B Al 24 p st.l])
section
variable{P:Program}{Γ Γ' E D0:List Dt}{L M N:List Res}{e:Env}{X:Cx}{n:Fs}{w0:World}{Q:Exit→Act→World→Prop}{ops:Array Oper}{d:Nat}{ty:TypeId}{pos:String}{af:Array Edge}{rest:List Oper}{f:FuncId}{h:Operand}{xs:List Operand}{ws:List Value}{ts:Array TypeId}{g B nb c:Nat}{vs al val:Value}{S:List Int}{m st:Mq}
theorem EM(h:KAq P f ws D0 g vs al S m st val):KAq P f (ws++[]) D0 g vs al S m st val:=by rw[List.append_nil];exact h
theorem TO(h:KBq P f ws D0 g vs al S B E m st val):KBq P f (ws++[]) D0 g vs al S B E m st val:=by rw[List.append_nil];exact h
theorem jzr(hE:Ent P f)(hf:ev e h=some (.func (.func f) #[] #[]))(hl:evl e xs=some (.pointer (some ⟨g,0,none⟩)::ws))(hT:KAq P f ws D0 g vs al S m st val)(hd:Sd Γ L (dv (rL (rI .i64)) vs S::D0))(hk:Tks L [bx g 139 (mcq m vs al),gl B Al 24 al m.l] M)(ok:Ez nb c S st)
  (k:∀x,x=st→Ez nb c S x→Uf nb c x→LH P n w0 ops Q X Γ (bx g 139 (mcq x vs al)::gl B Al 24 al x.l::M) ((d,val)::e) rest) (h1:st.l=m.l:=by rfl) (hd1:Nat.blt d n.sz=true:=by rfl):LH P n w0 ops Q X Γ L e (⟨some d,.call { callee := .value h,args:=xs.toArray,argTypes:=ts },ty,pos,af,none⟩::rest) :=
 jc (cs:=[]) hE hf hl (EM hT) hd (Uv hk) (fun _=>rfl) (fun _=>rfl) (fun _=>by have:=k st rfl ok (okQ.bnd ok.1);rw[h1] at this;exact this) hd1
theorem jzb(hE:Ent P f)(hf:ev e h=some (.func (.func f) #[] #[]))(hl:evl e xs=some (.pointer (some ⟨g,0,none⟩)::ws))(hT:KBq P f ws D0 g vs al S B E m st val)(hd:Sd Γ L (dv (rL (rI .i64)) vs S::D0))(hk:Tks L [bx g 139 (mcq m vs al),gl B Al 24 al m.l] M)(ok:Ez nb c S st)(hp:Ap E Γ Γ')
  (k:∀x,x=st→Ez nb c S x→Uf nb c x→∀al',Sv al'→LH P n w0 ops Q X Γ' (bx g 139 (mcq x vs al')::gl B Al 24 al' x.l::M) ((d,val)::e) rest) (hd1:Nat.blt d n.sz=true:=by rfl):LH P n w0 ops Q X Γ L e (⟨some d,.call { callee := .value h,args:=xs.toArray,argTypes:=ts },ty,pos,af,none⟩::rest) :=
 jc (cs:=[]) hE hf hl (TO hT) hd hk (fun _=>hp) (fun _=>rfl) (fun p=>jgo k1 fun h9=>k st rfl ok (okQ.bnd ok.1) p h9) hd1
theorem jze{α β:Type}{r:Rp α}{vl:α→β→Value}{a:α}(hE:Ent P f)(hf:ev e h=some (.func (.func f) #[] #[]))(hl:evl e xs=some (.pointer (some ⟨g,0,none⟩)::ws))(hT:KEq P f (ws++[]) D0 g vs al S B r vl a m st)(hd:Sd Γ L (dv (rL (rI .i64)) vs S::D0))(hk:Tks L [bx g 139 (mcq m vs al),gl B Al 24 al m.l] M)(ok:Ez nb c S st)
  (k:∀x,x=st→Ez nb c S x→Uf nb c x→∀al' cc,Sv al'→LH P n w0 ops Q X (da r (vl a cc) a::Γ) (bx g 139 (mcq x vs al')::gl B Al 24 al' x.l::M) ((d,vl a cc)::e) rest) (hd1:Nat.blt d n.sz=true:=by rfl):LH P n w0 ops Q X Γ L e (⟨some d,.call { callee := .value h,args:=xs.toArray,argTypes:=ts },ty,pos,af,none⟩::rest) :=
 jc (cs:=[]) hE hf hl hT hd hk (fun _=>rfl) (fun _=>rfl) (fun p=>jgo k1 fun h9=>k st rfl ok (okQ.bnd ok.1) p.1 p.2 h9) hd1
theorem jzg{j t:Nat}{want Bb:Bool}{u:Value}(hj:(ops[j]?).bind (·.dst)=some t)(hu:lk e t=some u)(hB:Gd u want Bb)(hE:Ent P f)(hf:ev e h=some (.func (.func f) #[] #[]))(hl:Bb=true→evl e xs=some (.pointer (some ⟨g,0,none⟩)::ws))(hT:KAq P f ws D0 g vs al S m st val)(hd:Sd Γ L (dv (rL (rI .i64)) vs S::D0))(hk:Tks L [bx g 139 (mcq m vs al),gl B Al 24 al m.l] M)(ok:Ez nb c S (if Bb then st else m))
  (k:∀x,x=(if Bb then st else m)→Ez nb c S x→Uf nb c x→LH P n w0 ops Q X Γ (bx g 139 (mcq x vs al)::gl B Al 24 al x.l::M) ((d,gv Bb val)::e) rest) (h1:st.l=m.l:=by rfl) (hd1:Nat.blt d n.sz=true:=by rfl) (ht:Nat.blt t n.sz=true:=by rfl):LH P n w0 ops Q X Γ L e (⟨some d,.call { callee := .value h,args:=xs.toArray,argTypes:=ts },ty,pos,af,some (j,want)⟩::rest):=fun F H hp=>by
 have hk1:=Uv hk
 refine LF.gcallF hj hu hB (fun hb=>Lc.fnc (cs:=[]) hE hf (hl hb)) (fun _=>(EM hT).run hp hd hk1) (fun v' H' hz=>?_) hd1 ht
 rcases hz with⟨hb,_,F',rfl,h9⟩|⟨hb,rfl⟩
 ·subst hb
  have:=k st (by simp) (by simpa using ok) (okQ.bnd (by simpa using ok.1))
  rw[h1] at this
  exact this F' H' h9
 ·subst hb
  have:=k m (by simp) (by simpa using ok) (okQ.bnd (by simpa using ok.1))
  exact this F _ (Jl hp hk)
theorem jzn(st:Mq)(hk:Tks L [bx g 139 (mcq st vs al),gl B Al 24 al st.l] M)(ok:Ez nb c S st)
 (k:∀x,x=st→Ez nb c S x→Uf nb c x→LH P n w0 ops Q X Γ (bx g 139 (mcq x vs al)::gl B Al 24 al x.l::M) e rest):LH P n w0 ops Q X Γ L e rest:=fun F H hp=>k st rfl ok (okQ.bnd ok.1) F H (Jl hp hk)
theorem K0(st:Mq)(hk:Tk L (bx g 139 (mcq st vs al)) M)(ok:Ez nb c S st)
 (k:∀x,x=st→Ez nb c S x→Uf nb c x→LH P n w0 ops Q X Γ (bx g 139 (mcq x vs al)::M) e rest):LH P n w0 ops Q X Γ L e rest:=fun F H hp=>k st rfl ok (okQ.bnd ok.1) F H (hp.front hk)
end
theorem IW:Fld Tryz.prog 139 0 0:=⟨_,_,Tryz.underlying139,rfl,rfl,1,(by unfold Sz;kernel_rfl),by decide⟩
theorem Uq:Fld Tryz.prog 139 1 1:=⟨_,_,Tryz.underlying139,rfl,rfl,1,(by unfold Sz;kernel_rfl),by decide⟩
theorem S6:Fld Tryz.prog 139 2 2:=⟨_,_,Tryz.underlying139,rfl,rfl,1,(by unfold Sz;kernel_rfl),by decide⟩
theorem Zz:Fld Tryz.prog 139 3 3:=⟨_,_,Tryz.underlying139,rfl,rfl,1,(by unfold Sz;kernel_rfl),by decide⟩
theorem I24:(Tryz.prog.info? 24).map (fun i=>(i.zero,i.size,i.bytes))=some (some (.agg #[.int .i64 0,.int .i64 0,.int .i64 0,.int .i64 0,.int .i64 0,.int .i64 0,.int .i32 0,.slice none 0 0]),8,80):=by kernel_rfl
theorem Z93:Sz Tryz.prog 93 1:=by unfold Sz;kernel_rfl
theorem Vn{vs al:Value}{m:Mq}{nb c:Nat}{S:List Int}{g0:Nat}(hok:Ez nb c S m)(hc:c≤1000000)(n:Int)(hn9:0<n∧n≤1000000000):KAq Tryz.prog 126 [.int .i64 n] [] g0 vs al S m (Df m) (.int .i64 (Ck n m)):=by
 refine Af (args:=[.pointer (some ⟨g0,0,none⟩),.int .i64 n]) Tryz.func126 rfl rfl rfl fun w0 X=>?_
 have bd0:=okQ.bnd hok.1
 refine jq (jr (ja Z (jn (jx (jq (jr (ja Z (jn (jx (jq (jq ?_)))))))))))
 refine Jj Bh (by kernel_rfl) (jt (jmv Z) (jt (Ad Z) (jt (jf Uq Z) (jt (jl k0 O3 Z Z) (jt (jmv Z) (jt (Ad Z) (jt (jf IW Z) (jt (jl k0 O22 Z Z) (tdq d0 fun q1 w1=>jt (jln U22 d0 Z) (jt (Ai Z Z) ?_))))))))))
 refine jdn (jx ?_)
 refine jif Z (fun hc1=>?_) (fun hc1=>?_)
 refine Jj Bh (by kernel_rfl) (jt (jmv Z) (jt (Ad Z) (jt (jf IW Z) (jt (jl k0 O22 Z Z) (jt (jmv Z) (jt (Ad Z) (jt (jf Uq Z) (jt (jl k0 O3 Z Z) (jt (jix (i:=(Int.toNat m.k)) U22 Z3 d0 Z Z (by omega) (by omega)) (jt (jlI (dix d0 (Int.toNat m.k) (by omega)) O3 Z) (jt (jas Z) ?_)))))))))))
 refine jdn (jx (jq (jr (jm Z (js (Ad Z) (js (jf Uq Z) (js (jl k0 O3 Z Z) (js (Ac Z Z (by omega)) (js (Ad Z) (js (jf Uq Z) (jst k0 Z3 Z Z Z s1 ?_)))))))))))
 refine K0 (c:=c+1) ({ m with k:=m.k+1 }) k0 ⟨(okQ.setk hok.1 (by omega) (by omega)),hok.2⟩ fun ms2 hms2 oms2 bms2=>?_
 clear bd0
 refine jn (jx (jq (jr (jm Z (jm Z (js (Mo Z Z (by omega)) (jm Z ?_)))))))
 have hz1:=Int.tmod_lt_of_pos (ix S (Int.toNat m.k)) hn9.1
 have hz2:=Int.lt_tmod_of_pos (ix S (Int.toNat m.k)) hn9.1
 refine js (Ac Z Z (by omega)) (jm Z (js (Mo Z Z (by omega)) (ja Z (jn (jx (jrt ?_))))))
 have hv0:Ck n m=(Int.tmod ((Int.tmod (ix S (Int.toNat m.k)) n)+n) n):=(by(try simp only[hms2] at hc1);(try simp only[hms2]);simp only[Ck,hok.2];simp[*])
 have hst:ms2=Df m:=(by(try simp only[hms2] at hc1);(try simp only[hms2]);all_goals first|rfl|(simp[Ck,Df,hc1];done)|(simp[Ck,Df,hc1];rfl)|(unfold Ck Df;(repeat' split)<;>first|rfl|(exfalso;omega)|(simp[hc1] at *;done)|(simp_all;done)))
 exact jr1 Z Z () (by rw[hv0]<;>rfl) dn (fun _ _=>(kcb (by rw[←hst]) k0 kn))
 refine jsk (jx (jq (jr (jm Z (js (Ad Z) (js (jf Uq Z) (js (jl k0 O3 Z Z) (js (Ac Z Z (by omega)) (js (Ad Z) (js (jf Uq Z) (jst k0 Z3 Z Z Z s1 ?_)))))))))))
 refine K0 (c:=c+1) ({ m with k:=m.k+1 }) k0 ⟨(okQ.setk hok.1 (by omega) (by omega)),hok.2⟩ fun ms3 hms3 oms3 bms3=>?_
 clear bd0
 refine jn (jx (jq (jr (jm Z (jm Z (js (Mo Z Z (by omega)) (jm Z ?_)))))))
 have hz1:=Int.tmod_lt_of_pos 0 hn9.1
 have hz2:=Int.lt_tmod_of_pos 0 hn9.1
 refine js (Ac Z Z (by omega)) (jm Z (js (Mo Z Z (by omega)) (ja Z (jn (jx (jrt ?_))))))
 have hv0:Ck n m=(Int.tmod ((Int.tmod 0 n)+n) n):=(by(try simp only[hms3] at hc1);(try simp only[hms3]);simp only[Ck,hok.2];simp[*])
 have hst:ms3=Df m:=(by(try simp only[hms3] at hc1);(try simp only[hms3]);all_goals first|rfl|(simp[Ck,Df,hc1];done)|(simp[Ck,Df,hc1];rfl)|(unfold Ck Df;(repeat' split)<;>first|rfl|(exfalso;omega)|(simp[hc1] at *;done)|(simp_all;done)))
 exact jr1 Z Z () (by rw[hv0]<;>rfl) dn (fun _ _=>(kcb (by rw[←hst]) k0 kn))
theorem Qv{vs al:Value}{m:Mq}{nb c:Nat}{S:List Int}{g0:Nat}(hok:Ez nb c S m)(hc:c≤1000000):KAq Tryz.prog 127 [] [] g0 vs al S m (Cz m) (.int .i64 m.nx):=by
 refine Af (args:=[.pointer (some ⟨g0,0,none⟩)]) Tryz.func127 rfl rfl rfl fun w0 X=>?_
 have bd0:=okQ.bnd hok.1
 refine jq (jr (ja Z (jn (jx (jq (jr (jm Z (js (Ad Z) (js (jf S6 Z) (js (jl k0 O3 Z Z) (js (Ac Z Z (by omega)) ?_)))))))))))
 refine js (Ad Z) (js (jf S6 Z) (jst k0 Z3 Z Z Z s2 (K0 (c:=c+1) ({ m with nx:=m.nx+1 }) k0 ⟨(okQ.setnx hok.1 (by omega) (by omega)),hok.2⟩ fun ms1 hms1 oms1 bms1=>?_)))
 clear bd0
 refine jn (jx (jq (jr (jm Z (js (Ad Z) (js (jf S6 Z) (js (jl k0 O3 Z Z) (js (Gg Z Z (by omega)) (ja Z (jn (jx ?_)))))))))))
 refine jrt ?_
 have hv0:m.nx=(ms1.nx-1):=(by(try simp only[hms1]);simp)
 have hst:ms1=Cz m:=(by(try simp only[hms1]);all_goals first|rfl|(simp[Cz];done)|(simp[Cz];rfl)|(unfold Cz;(repeat' split)<;>first|rfl|(exfalso;omega)|(simp[] at *;done)|(simp_all;done)))
 exact jr1 Z Z () (by rw[hv0]<;>rfl) dn (fun _ _=>(kcb (by rw[←hst]) k0 kn))
theorem Il{vs al:Value}{m:Mq}{nb c:Nat}{S:List Int}{g0:Nat}{B0:Nat}(hok:Ez nb c S m)(hc:c≤1000000){a1:Value}{i:D.Mach}:KBq Tryz.prog 124 [vMach i a1] [da Al (vMach i a1) i] g0 vs al S B0 [] m (Fh i m) (.tuple #[]):=by
 refine Af (args:=[.pointer (some ⟨g0,0,none⟩),vMach i a1]) Tryz.func124 rfl rfl rfl fun w0 X=>?_
 refine cgo k1 fun w1=>?_
 have bd0:=okQ.bnd hok.1
 refine jq (jr (Bj Z Z fun g3=>jn (jx (Cp true (.a 0 (.a 1 (.a 2 (.a 3 (.a 4 (.a 5 (.o 6 (.o 7 (.a 8 (.a 9 (.o 10 .e))))))))))) Bh (by kernel_rfl) (kd kn) fun F2=>jy Z (jmv Z) (jy Z (jmv Z) (jy Z (Ad Z) (jy Z (jf Zz Z) (jy Z (jl k1 O93 Z Z) (jy Z (jla k0 A24 Z24 Z Z Z) ?_)))))))))
 refine jyo Z (Ba (r:=Al) (l:=[i]) U93 I24 (by decide) Z Z Z (lA d2 ln) fun g10=>jyn d0 (kc k1 (kc k1 kn)) (jyo Z (jfz k0 (by(try simp)<;>omega) (Ev U93 I24 (by decide) Z k2 Z Z d0 (by(try simp)<;>omega) fun v11 w6=>jyn d1 (kc k1 (kc k1 kn)) (jy Z (Ad Z) (jy Z (jf Zz Z) (jyo Z (jst k2 Z93 Z Z w6.one s3 (jzn (c:=c+1) ({ m with l:=m.l++([i]) }) (kd kn) ⟨(okQ.setl hok.1 (by simp only[List.length_append,List.length_cons,List.length_nil];omega) (by omega)),hok.2⟩ fun ms8 hms8 oms8 bms8=>?_)))))))))
 clear bd0
 refine jyz d0 (jyd ?_)
 have hst:ms8=Fh i m:=(by(try simp only[hms8]);all_goals first|rfl|(simp[Fh];done)|(simp[Fh];rfl)|(unfold Fh;(repeat' split)<;>first|rfl|(exfalso;omega)|(simp[] at *;done)|(simp_all;done)))
 exact jd0 Z v11 Z dn (fun _ _=>(kcb (by rw[←hst]) k0 (kcg (by rw[←hst]) k0 kn)))
theorem Iw:Ent Tryz.prog 124:=⟨_,Tryz.func124,by kernel_rfl,by kernel_rfl⟩
theorem Wo:Ent Tryz.prog 126:=⟨_,Tryz.func126,by kernel_rfl,by kernel_rfl⟩
theorem Rr:Ent Tryz.prog 127:=⟨_,Tryz.func127,by kernel_rfl,by kernel_rfl⟩
theorem Yc{vs al:Value}{m:Mq}{nb c:Nat}{S:List Int}{g0:Nat}{B0:Nat}(hok:Ez nb c S m)(hc:c≤990000)(r:Int)(ww1:IntKind.i64.wrap r=r):KBq Tryz.prog 128 [.int .i64 r] [] g0 vs al S B0 [wf .i64 (Bd r m)] m (Bv r m) (.int .i64 (Bd r m)):=by
 refine Af (args:=[.pointer (some ⟨g0,0,none⟩),.int .i64 r]) Tryz.func128 rfl rfl rfl fun w0 X=>?_
 refine cgo k1 fun w1=>?_
 have bd0:=okQ.bnd hok.1
 refine jq (jr (ja Z (jn (jx (jq (jq (jr (jm Z (jzr Wo Z Z (Vn hok (by omega) 4 (by omega)) (dc d0 dn) (kd kn) ⟨Ih hok.1,hok.2⟩ fun m7 hm7 om7 bm7=>?_)))))))))
 have w7_0:IntKind.i64.wrap (Ck 4 m)=Ck 4 m:=(IntWalk.i64_in _ (by have h9:=@Nh 4 (by omega) m;omega))
 have tr7:=@Nh 4 (by omega) m
 clear bd0
 refine js (Fi Z Z) (jn (jx ?_))
 refine jif Z (fun hc1=>?_) (fun hc1=>?_)
 refine jq (jr (jm Z (ja Z (jn (jx (jrt (jtr ?_)))))))
 have hv0:Bd r m=r:=(by(try simp only[hm7] at hc1);(try simp only[hm7]);all_goals first|rfl|(simp[Bv,Bd,hc1];done)|(simp[Bv,Bd,hc1];rfl)|(unfold Bv Bd;(repeat' split)<;>first|rfl|(exfalso;omega)|(simp[hc1] at *;done)|(simp_all;done)))
 have hst:m7=Bv r m:=(by(try simp only[hm7] at hc1);(try simp only[hm7]);all_goals first|rfl|(simp[Bv,Bd,hc1];done)|(simp[Bv,Bd,hc1];rfl)|(unfold Bv Bd;(repeat' split)<;>first|rfl|(exfalso;omega)|(simp[hc1] at *;done)|(simp_all;done)))
 exact jr1 Z Z al (by rw[hv0]<;>rfl) (dc (wca hv0 (wp ww1)) dn) (fun _ _=>(kcb (by rw[←hst]) k0 (kcg (by rw[←hst]) k0 kn)))
 refine jsk (jx (jq (jr (jm Z (jzr Rr Z Z (Qv om7 (by omega)) (dc d0 dn) (kd kn) ⟨Ju om7.1,om7.2⟩ fun m11 hm11 om11 bm11=>?_)))))
 have w11_0:IntKind.i64.wrap (m7.nx)=m7.nx:=(IntWalk.i64_in _ (by omega))
 clear bm7
 refine ja Z (jn (jx (jq (jr (jm Z (jm Z (jm Z (js (jbu (v := .agg #[.int .i64 1,.int .i64 m7.nx,.int .i64 0,.int .i64 r,.int .i64 0,.int .i64 0,.int .i32 0,.slice none 0 0]) Z (fun _=>by kernel_rfl)) (jzb Iw Z Z (Il (i:=⟨1,m7.nx,0,r,0,0,0,[]⟩) om11 (by omega)) (dc d0 (dc (Al.M (m:=⟨1,m7.nx,0,r,0,0,0,[]⟩) (c:=(.slice none 0 0)) wN (wl 1) (wp w11_0) (wl 0) (wp ww1) (wl 0) (wl 0) (wl 0)) dn)) (kd kn) ⟨Ek om11.1,(Gx.trans om11.2)⟩ p0 fun m16 hm16 om16 bm16 ua16 w2=>?_)))))))))
 clear bm11
 refine jn (jx (jq (jr (jm Z (ja Z (jn (jx (jrt ?_))))))))
 have hv0:Bd r m=m7.nx:=(by(try simp only[hm7,hm11,hm16] at hc1);(try simp only[hm7,hm11,hm16]);all_goals first|rfl|(simp[Bv,Bd,hc1];done)|(simp[Bv,Bd,hc1];rfl)|(unfold Bv Bd;(repeat' split)<;>first|rfl|(exfalso;omega)|(simp[hc1] at *;done)|(simp_all;done)))
 have hst:m16=Bv r m:=(by(try simp only[hm7,hm11,hm16] at hc1);(try simp only[hm7,hm11,hm16]);all_goals first|rfl|(simp[Bv,Bd,hc1];done)|(simp[Bv,Bd,hc1];rfl)|(unfold Bv Bd;(repeat' split)<;>first|rfl|(exfalso;omega)|(simp[hc1] at *;done)|(simp_all;done)))
 exact jr1 Z Z ua16 (by rw[hv0]<;>rfl) (dc (wca hv0 (wp w11_0)) dn) (fun _ _=>(kcb (by rw[←hst]) k0 (kcg (by rw[←hst]) k0 kn)))
theorem Yb{vs al:Value}{m:Mq}{nb c:Nat}{S:List Int}{g0:Nat}{B0:Nat}(hok:Ez nb c S m)(hc:c≤990000)(d:Int)(n:Int)(ww1:IntKind.i64.wrap d=d)(ww2:IntKind.i32.wrap n=n):KBq Tryz.prog 122 [.int .i64 d,.int .i32 n] [] g0 vs al S B0 [] m (Ea d n m) (.tuple #[]):=by
 refine Af (args:=[.pointer (some ⟨g0,0,none⟩),.int .i64 d,.int .i32 n]) Tryz.func122 rfl rfl rfl fun w0 X=>?_
 refine cgo k1 fun w1=>?_
 have bd0:=okQ.bnd hok.1
 refine jq (jq (jr (jm Z (js (Eo Z Z) (jm Z (jg Z Z (.t _) (fun hg=>jmv Z) (jg Z Z (.t _) (fun hg=>Ai (evg Z hg) Z) (js (Cm Z Z) (jm Z (jg Z Z (.t _) (fun hg=>jmv Z) (jzg Z Z (.t _) Wo Z (fun hg=>Pw (evg Z hg) Z) (Vn hok (by omega) 2 (by omega)) (dc d0 dn) (kd kn) (by split;exact⟨Ih hok.1,hok.2⟩;exact hok.mono (by omega)) fun m14 hm14 om14 bm14=>?_)))))))))))
 have w14_0:IntKind.i64.wrap (Ck 2 m)=Ck 2 m:=(IntWalk.i64_in _ (by have h9:=@Nh 2 (by omega) m;omega))
 have tr14:=@Nh 2 (by omega) m
 clear bd0
 refine jg Z Z (.t _) (fun hg=>Aj (evg Z hg) Z) (js (Cm Z Z) (jn (jx ?_)))
 refine jif Z (fun hc1=>?_) (fun hc1=>?_)
 refine jq (jr (jm Z (jm Z (jm Z (js (jbu (v := .agg #[.int .i64 3,.int .i64 d,.int .i64 0,.int .i64 0,.int .i64 0,.int .i64 0,.int .i32 n,.slice none 0 0]) Z (fun _=>by kernel_rfl)) (jzb Iw Z Z (Il (i:=⟨3,d,0,0,0,0,n,[]⟩) om14 (by omega)) (dc d0 (dc (Al.M (m:=⟨3,d,0,0,0,0,n,[]⟩) (c:=(.slice none 0 0)) wN (wl 3) (wp ww1) (wl 0) (wl 0) (wl 0) (wl 0) (wp ww2)) dn)) (kd kn) ⟨Ek om14.1,(Gx.trans om14.2)⟩ p0 fun m21 hm21 om21 bm21 ua21 w2=>?_))))))
 clear bm14
 refine jn (jx (jrt (jtr ?_)))
 have hst:m21=Ea d n m:=(by(try simp only[hm14,hm21] at hc1);(try simp only[hm14,hm21]);unfold Ea Hg Sa;by_cases h1:-32768≤n<;>by_cases h2:n<32768<;>by_cases h3:Ck 2 m=0<;>simp[h1,h2,h3] at hc1 ⊢)
 exact jr0 Z ua21 Z dn (fun _ _=>(kcb (by rw[←hst]) k0 (kcg (by rw[←hst]) k0 kn)))
 refine jsk (jx (jr (jm Z (jm Z (jm Z (js (jbu (v := .agg #[.int .i64 4,.int .i64 d,.int .i64 0,.int .i64 0,.int .i64 0,.int .i64 0,.int .i32 n,.slice none 0 0]) Z (fun _=>by kernel_rfl)) (jzb Iw Z Z (Il (i:=⟨4,d,0,0,0,0,n,[]⟩) om14 (by omega)) (dc d0 (dc (Al.M (m:=⟨4,d,0,0,0,0,n,[]⟩) (c:=(.slice none 0 0)) wN (wl 4) (wp ww1) (wl 0) (wl 0) (wl 0) (wl 0) (wp ww2)) dn)) (kd kn) ⟨Ek om14.1,(Gx.trans om14.2)⟩ p0 fun m26 hm26 om26 bm26 ua26 w3=>?_)))))))
 clear bm14
 refine jn ?_
 have hst:m26=Ea d n m:=(by(try simp only[hm14,hm26] at hc1);(try simp only[hm14,hm26]);unfold Ea Hg Sa;by_cases h1:-32768≤n<;>by_cases h2:n<32768<;>by_cases h3:Ck 2 m=0<;>simp[h1,h2,h3] at hc1 ⊢)
 exact jd0 Z ua26 Z dn (fun _ _=>(kcb (by rw[←hst]) k0 (kcg (by rw[←hst]) k0 kn)))
theorem B6:Ent Tryz.prog 122:=⟨_,Tryz.func122,by kernel_rfl,by kernel_rfl⟩
theorem B5:Ent Tryz.prog 128:=⟨_,Tryz.func128,by kernel_rfl,by kernel_rfl⟩
theorem Na:Fld Tryz.prog 67 4 4:=⟨_,_,Tryz.underlying67,rfl,rfl,1,(by unfold Sz;kernel_rfl),by decide⟩
theorem SN{vs al:Value}{m:Mq}{nb c:Nat}{S:List Int}{g0:Nat}{B0:Nat}(hok:Ez nb c S m)(hc:c≤980000){a1:Value}{x:D.Ins}(hop:0≤x.Op∧x.Op≤1000)(hl2:2≤x.Args.length):KBq Tryz.prog 125 [vIns x a1] [da Ae (vIns x a1) x] g0 vs al S B0 [] m (Ep x m) (.tuple #[]):=by
 refine Af (args:=[.pointer (some ⟨g0,0,none⟩),vIns x a1]) Tryz.func125 rfl rfl rfl fun w0 X=>?_
 refine cgo k1 fun w1=>?_
 have bd0:=okQ.bnd hok.1
 refine jq (jr (Bj Z Z fun g3=>jn (jx (jq (jr (js (jf Nb Z) (js (jl k0 O3 Z Z) (js (Gg Z Z (by omega)) (js (Ac Z Z (by omega)) (ja Z ?_))))))))))
 refine jn (jx (jq (jr (jm Z (js (jf Mg Z) (js (jl k0 O22 Z Z) (jdq (Ae.c_Args d1) fun q2 w2=>js (jix (i:=0) U22 Z3 (Ae.c_Args d1) Z Z Z (by omega)) (js (jlI (dix (Ae.c_Args d1) 0 (by omega)) O3 Z) (jwr (wad (dix (Ae.c_Args d1) 0 (by omega))) fun w3=>jzb B5 Z Z (Yc hok (by omega) (ix x.Args 0) w3) (dc d0 dn) (kc k1 (kc k1 kn)) ⟨Qa hok.1,(Pz.trans hok.2)⟩ p1 fun m20 hm20 om20 bm20 ua20 w4=>?_)))))))))
 clear bd0
 refine ja Z (jn (jx (jq (jr (jm Z (js (jf Mg Z) (js (jl k2 O22 Z Z) (js (jix (i:=1) U22 Z3 (Ae.c_Args d2) Z Z Z (by omega)) (js (jlI (dix (Ae.c_Args d2) 1 (by omega)) O3 Z) (jwr (wad (dix (Ae.c_Args d2) 1 (by omega))) fun w6=>jzb B5 Z Z (Yc om20 (by omega) (ix x.Args 1) w6) (dc d1 dn) (kd kn) ⟨Qa om20.1,(Pz.trans om20.2)⟩ p1 fun m26 hm26 om26 bm26 ua26 w7=>?_))))))))))
 clear bm20
 refine ja Z (jn (jx (jq (jr (jm Z (jzr Wo Z Z (Vn om26 (by omega) 6 (by first|decide|omega|assumption)) (dc d2 dn) (kd kn) ⟨Ih om26.1,om26.2⟩ fun m28 hm28 om28 bm28=>?_))))))
 have w28_0:IntKind.i64.wrap (Ck 6 m26)=Ck 6 m26:=(IntWalk.i64_in _ (by have h9:=@Nh 6 (by omega) m26;omega))
 have tr28:=@Nh 6 (by omega) m26
 clear bm26
 refine jn (jx (jb (jq (jr (js (Aj Z Z) (ja Z (jn (jx ?_))))))))
 refine jif Z (fun hc1=>?_) (fun hc1=>?_)
 refine jq (jr (jm Z (jzr Rr Z Z (Qv om28 (by omega)) (dc d2 dn) (kd kn) ⟨Ju om28.1,om28.2⟩ fun m40 hm40 om40 bm40=>?_)))
 have w40_0:IntKind.i64.wrap (m28.nx)=m28.nx:=(IntWalk.i64_in _ (by omega))
 clear bm28
 refine ja Z (jn (jx (jq (jr (jm Z (jzr Rr Z Z (Qv om40 (by omega)) (dc d2 dn) (kd kn) ⟨Ju om40.1,om40.2⟩ fun m42 hm42 om42 bm42=>?_))))))
 have w42_0:IntKind.i64.wrap (m40.nx)=m40.nx:=(IntWalk.i64_in _ (by omega))
 clear bm40
 refine ja Z (jn (jx (jq (jr (jm Z (jm Z (jm Z (jm Z (jm Z (js (jbu (v := .agg #[.int .i64 ((x.Op-2)+5),.int .i64 m28.nx,.int .i64 0,.int .i64 (Bd (ix x.Args 0) m),.int .i64 (Bd (ix x.Args 1) m20),.int .i64 0,.int .i32 0,.slice none 0 0]) Z (fun _=>by kernel_rfl)) (jzb Iw Z Z (Il (i:=⟨(x.Op-2)+5,m28.nx,0,Bd (ix x.Args 0) m,Bd (ix x.Args 1) m20,0,0,[]⟩) om42 (by omega)) (dc d2 (dc (Al.M (m:=⟨(x.Op-2)+5,m28.nx,0,Bd (ix x.Args 0) m,Bd (ix x.Args 1) m20,0,0,[]⟩) (c:=(.slice none 0 0)) wN (wp (IntWalk.i64_in ((x.Op-2)+5) (by omega))) (wp w40_0) (wl 0) ((wfw d1)) ((wfw d0)) (wl 0) (wl 0)) dn)) (kd kn) ⟨Ek om42.1,(Gx.trans om42.2)⟩ p0 fun m49 hm49 om49 bm49 ua49 w9=>?_)))))))))))
 clear bm42
 refine jn (jx (jq (jr (jm Z (jm Z (jm Z (js (jbu (v := .agg #[.int .i64 18,.int .i64 m40.nx,.int .i64 0,.int .i64 m28.nx,.int .i64 0,.int .i64 0,.int .i32 100,.slice none 0 0]) Z (fun _=>by kernel_rfl)) (jzb Iw Z Z (Il (i:=⟨18,m40.nx,0,m28.nx,0,0,100,[]⟩) om49 (by omega)) (dc d2 (dc (Al.M (m:=⟨18,m40.nx,0,m28.nx,0,0,100,[]⟩) (c:=(.slice none 0 0)) wN (wl 18) (wp w42_0) (wl 0) (wp w40_0) (wl 0) (wl 0) (wl 100)) dn)) (kd kn) ⟨Ek om49.1,(Gx.trans om49.2)⟩ p0 fun m54 hm54 om54 bm54 ua54 w10=>?_))))))))
 clear bm49
 refine jn (jx (jr (jm Z (js (jf Gh Z) (js (jl k2 O3 Z Z) (jm Z (js (jbu (v := .agg #[.int .i64 18,.int .i64 x.Dst,.int .i64 0,.int .i64 m40.nx,.int .i64 0,.int .i64 0,.int .i32 ((-100)),.slice none 0 0]) Z (fun _=>by kernel_rfl)) (jzb Iw Z Z (Il (i:=⟨18,x.Dst,0,m40.nx,0,0,(-100),[]⟩) om54 (by omega)) (dc d2 (dc (Al.M (m:=⟨18,x.Dst,0,m40.nx,0,0,(-100),[]⟩) (c:=(.slice none 0 0)) wN (wl 18) (Ae.W_Dst d3) (wl 0) (wp w42_0) (wl 0) (wl 0) (wl (-100))) dn)) (kd kn) ⟨Ek om54.1,(Gx.trans om54.2)⟩ p0 fun m60 hm60 om60 bm60 ua60 w11=>?_))))))))
 clear bm54
 refine jn (jbn ?_)
 have hst:m60=Ep x m:=(by(try simp only[hm20,hm26,hm28,hm40,hm42,hm49,hm54,hm60] at hc1);(try simp only[hm20,hm26,hm28,hm40,hm42,hm49,hm54,hm60]);all_goals first|rfl|(simp[Ep,Er,opQ,hc1];done)|(simp[Ep,Er,opQ,hc1];rfl)|(unfold Ep Er opQ;(repeat' split)<;>first|rfl|(exfalso;omega)|(simp[hc1] at *;done)|(simp_all;done)))
 exact jd0 Z ua60 Z dn (fun _ _=>(kcb (by rw[←hst]) k0 (kcg (by rw[←hst]) k0 kn)))
 refine jq (jr (js (Aj Z Z) (ja Z (jn (jx ?_)))))
 refine jif Z (fun hc2=>?_) (fun hc2=>?_)
 refine jq (jr (jm Z (jzr Rr Z Z (Qv om28 (by omega)) (dc d2 dn) (kd kn) ⟨Ju om28.1,om28.2⟩ fun m64 hm64 om64 bm64=>?_)))
 have w64_0:IntKind.i64.wrap (m28.nx)=m28.nx:=(IntWalk.i64_in _ (by omega))
 clear bm28
 refine ja Z (jn (jx (jq (jr (jm Z (jm Z (jm Z (jm Z (jm Z (js (jbu (v := .agg #[.int .i64 ((x.Op-2)+5),.int .i64 m28.nx,.int .i64 0,.int .i64 (Bd (ix x.Args 0) m),.int .i64 (Bd (ix x.Args 1) m20),.int .i64 0,.int .i32 0,.slice none 0 0]) Z (fun _=>by kernel_rfl)) (jzb Iw Z Z (Il (i:=⟨(x.Op-2)+5,m28.nx,0,Bd (ix x.Args 0) m,Bd (ix x.Args 1) m20,0,0,[]⟩) om64 (by omega)) (dc d2 (dc (Al.M (m:=⟨(x.Op-2)+5,m28.nx,0,Bd (ix x.Args 0) m,Bd (ix x.Args 1) m20,0,0,[]⟩) (c:=(.slice none 0 0)) wN (wp (IntWalk.i64_in ((x.Op-2)+5) (by omega))) (wp w64_0) (wl 0) ((wfw d1)) ((wfw d0)) (wl 0) (wl 0)) dn)) (kd kn) ⟨Ek om64.1,(Gx.trans om64.2)⟩ p0 fun m71 hm71 om71 bm71 ua71 w12=>?_)))))))))))
 clear bm64
 refine jn (jx (jr (jm Z (js (jf Gh Z) (js (jl k2 O3 Z Z) (jm Z (js (jbu (v := .agg #[.int .i64 20,.int .i64 x.Dst,.int .i64 0,.int .i64 m28.nx,.int .i64 0,.int .i64 0,.int .i32 0,.slice none 0 0]) Z (fun _=>by kernel_rfl)) (jzb Iw Z Z (Il (i:=⟨20,x.Dst,0,m28.nx,0,0,0,[]⟩) om71 (by omega)) (dc d2 (dc (Al.M (m:=⟨20,x.Dst,0,m28.nx,0,0,0,[]⟩) (c:=(.slice none 0 0)) wN (wl 20) (Ae.W_Dst d3) (wl 0) (wp w64_0) (wl 0) (wl 0) (wl 0)) dn)) (kd kn) ⟨Ek om71.1,(Gx.trans om71.2)⟩ p0 fun m77 hm77 om77 bm77 ua77 w13=>?_))))))))
 clear bm71
 refine jn (jbn ?_)
 have hst:m77=Ep x m:=(by(try simp only[hm20,hm26,hm28,hm64,hm71,hm77] at hc1 hc2);(try simp only[hm20,hm26,hm28,hm64,hm71,hm77]);all_goals first|rfl|(simp[Ep,Er,opQ,hc1,hc2];done)|(simp[Ep,Er,opQ,hc1,hc2];rfl)|(unfold Ep Er opQ;(repeat' split)<;>first|rfl|(exfalso;omega)|(simp[hc1,hc2] at *;done)|(simp_all;done)))
 exact jd0 Z ua77 Z dn (fun _ _=>(kcb (by rw[←hst]) k0 (kcg (by rw[←hst]) k0 kn)))
 refine jq (jr (js (Aj Z Z) (ja Z (jn (jx ?_)))))
 refine jif Z (fun hc3=>?_) (fun hc3=>?_)
 refine jq (jq (jr (js (jf Nb Z) (js (jl k2 O3 Z Z) (js (Aj Z Z) (jn (jx ?_)))))))
 refine jif Z (fun hc4=>?_) (fun hc4=>?_)
 refine jq (jr (jm Z (jzr Rr Z Z (Qv om28 (by omega)) (dc d2 dn) (kd kn) ⟨Ju om28.1,om28.2⟩ fun m84 hm84 om84 bm84=>?_)))
 have w84_0:IntKind.i64.wrap (m28.nx)=m28.nx:=(IntWalk.i64_in _ (by omega))
 clear bm28
 refine ja Z (jn (jx (jq (jr (jm Z (jm Z (jzb B6 Z Z (Yb om84 (by omega) m28.nx 0 w84_0 (by decide)) (dc d2 dn) (kd kn) ⟨Pi om84.1,(Ph.trans om84.2)⟩ p0 fun m87 hm87 om87 bm87 ua87 w14=>?_)))))))
 clear bm84
 refine jn (jx (jq (jr (jm Z (js (jf Gh Z) (js (jl k2 O3 Z Z) (jm Z (jm Z (jm Z (js (jbu (v := .agg #[.int .i64 23,.int .i64 x.Dst,.int .i64 0,.int .i64 (Bd (ix x.Args 0) m),.int .i64 (Bd (ix x.Args 1) m20),.int .i64 m28.nx,.int .i32 0,.slice none 0 0]) Z (fun _=>by kernel_rfl)) (jzb Iw Z Z (Il (i:=⟨23,x.Dst,0,Bd (ix x.Args 0) m,Bd (ix x.Args 1) m20,m28.nx,0,[]⟩) om87 (by omega)) (dc d2 (dc (Al.M (m:=⟨23,x.Dst,0,Bd (ix x.Args 0) m,Bd (ix x.Args 1) m20,m28.nx,0,[]⟩) (c:=(.slice none 0 0)) wN (wl 23) (Ae.W_Dst d3) (wl 0) ((wfw d1)) ((wfw d0)) (wp w84_0) (wl 0)) dn)) (kd kn) ⟨Ek om87.1,(Gx.trans om87.2)⟩ p0 fun m95 hm95 om95 bm95 ua95 w15=>?_)))))))))))
 clear bm87
 refine jn (jx (jrt (jtr (jbr ?_))))
 have hst:m95=Ep x m:=(by(try simp only[hm20,hm26,hm28,hm84,hm87,hm95] at hc1 hc2 hc3 hc4);(try simp only[hm20,hm26,hm28,hm84,hm87,hm95]);all_goals first|rfl|(simp[Ep,Er,opQ,hc1,hc2,hc3,hc4];done)|(simp[Ep,Er,opQ,hc1,hc2,hc3,hc4];rfl)|(unfold Ep Er opQ;(repeat' split)<;>first|rfl|(exfalso;omega)|(simp[hc1,hc2,hc3,hc4] at *;done)|(simp_all;done)))
 exact jr0 Z ua95 Z dn (fun _ _=>(kcb (by rw[←hst]) k0 (kcg (by rw[←hst]) k0 kn)))
 refine jsk (jx (jr (jm Z (jm Z (js (jf Gh Z) (js (jl k2 O3 Z Z) (jm Z (jm Z (js (jbu (v := .agg #[.int .i64 ((x.Op-2)+5),.int .i64 x.Dst,.int .i64 0,.int .i64 (Bd (ix x.Args 0) m),.int .i64 (Bd (ix x.Args 1) m20),.int .i64 0,.int .i32 0,.slice none 0 0]) Z (fun _=>by kernel_rfl)) (jzb Iw Z Z (Il (i:=⟨(x.Op-2)+5,x.Dst,0,Bd (ix x.Args 0) m,Bd (ix x.Args 1) m20,0,0,[]⟩) om28 (by omega)) (dc d2 (dc (Al.M (m:=⟨(x.Op-2)+5,x.Dst,0,Bd (ix x.Args 0) m,Bd (ix x.Args 1) m20,0,0,[]⟩) (c:=(.slice none 0 0)) wN (wp (IntWalk.i64_in ((x.Op-2)+5) (by omega))) (Ae.W_Dst d3) (wl 0) ((wfw d1)) ((wfw d0)) (wl 0) (wl 0)) dn)) (kd kn) ⟨Ek om28.1,(Gx.trans om28.2)⟩ p0 fun m103 hm103 om103 bm103 ua103 w16=>?_))))))))))
 clear bm28
 refine jn (jbn ?_)
 have hst:m103=Ep x m:=(by(try simp only[hm20,hm26,hm28,hm103] at hc1 hc2 hc3 hc4);(try simp only[hm20,hm26,hm28,hm103]);all_goals first|rfl|(simp[Ep,Er,opQ,hc1,hc2,hc3,hc4];done)|(simp[Ep,Er,opQ,hc1,hc2,hc3,hc4];rfl)|(unfold Ep Er opQ;(repeat' split)<;>first|rfl|(exfalso;omega)|(simp[hc1,hc2,hc3,hc4] at *;done)|(simp_all;done)))
 exact jd0 Z ua103 Z dn (fun _ _=>(kcb (by rw[←hst]) k0 (kcg (by rw[←hst]) k0 kn)))
 refine jr (jm Z (jm Z (js (jf Gh Z) (js (jl k2 O3 Z Z) (jm Z (jm Z (js (jbu (v := .agg #[.int .i64 ((x.Op-2)+5),.int .i64 x.Dst,.int .i64 0,.int .i64 (Bd (ix x.Args 0) m),.int .i64 (Bd (ix x.Args 1) m20),.int .i64 0,.int .i32 0,.slice none 0 0]) Z (fun _=>by kernel_rfl)) (jzb Iw Z Z (Il (i:=⟨(x.Op-2)+5,x.Dst,0,Bd (ix x.Args 0) m,Bd (ix x.Args 1) m20,0,0,[]⟩) om28 (by omega)) (dc d2 (dc (Al.M (m:=⟨(x.Op-2)+5,x.Dst,0,Bd (ix x.Args 0) m,Bd (ix x.Args 1) m20,0,0,[]⟩) (c:=(.slice none 0 0)) wN (wp (IntWalk.i64_in ((x.Op-2)+5) (by omega))) (Ae.W_Dst d3) (wl 0) ((wfw d1)) ((wfw d0)) (wl 0) (wl 0)) dn)) (kd kn) ⟨Ek om28.1,(Gx.trans om28.2)⟩ p0 fun m36 hm36 om36 bm36 ua36 w17=>?_))))))))
 clear bm28
 refine jn (jbn ?_)
 have hst:m36=Ep x m:=(by(try simp only[hm20,hm26,hm28,hm36] at hc1 hc2 hc3);(try simp only[hm20,hm26,hm28,hm36]);all_goals first|rfl|(simp[Ep,Er,opQ,hc1,hc2,hc3];done)|(simp[Ep,Er,opQ,hc1,hc2,hc3];rfl)|(unfold Ep Er opQ;(repeat' split)<;>first|rfl|(exfalso;omega)|(simp[hc1,hc2,hc3] at *;done)|(simp_all;done)))
 exact jd0 Z ua36 Z dn (fun _ _=>(kcb (by rw[←hst]) k0 (kcg (by rw[←hst]) k0 kn)))
theorem EB{vs al:Value}{m:Mq}{nb c:Nat}{S:List Int}{g0:Nat}{B0:Nat}(hok:Ez nb c S m)(hc:c≤980000){a1:Value}{x:D.Ins}(hl1:1≤x.Args.length)(hl2:x.Op=15∨2≤x.Args.length):KBq Tryz.prog 123 [vIns x a1] [da Ae (vIns x a1) x] g0 vs al S B0 [] m (Kb x m) (.tuple #[]):=by
 refine Af (args:=[.pointer (some ⟨g0,0,none⟩),vIns x a1]) Tryz.func123 rfl rfl rfl fun w0 X=>?_
 refine cgo k1 fun w1=>?_
 have bd0:=okQ.bnd hok.1
 refine jq (jr (Bj Z Z fun g3=>jn (jx (jq (jr (jm Z (js (jf Mg Z) (js (jl k0 O22 Z Z) (jdq (Ae.c_Args d1) fun q2 w2=>js (jix (i:=0) U22 Z3 (Ae.c_Args d1) Z Z Z (by omega)) ?_)))))))))
 refine js (jlI (dix (Ae.c_Args d1) 0 (by omega)) O3 Z) (jwr (wad (dix (Ae.c_Args d1) 0 (by omega))) fun w3=>jzb B5 Z Z (Yc hok (by omega) (ix x.Args 0) w3) (dc d0 dn) (kc k1 (kc k1 kn)) ⟨Qa hok.1,(Pz.trans hok.2)⟩ p1 fun m11 hm11 om11 bm11 ua11 w4=>?_)
 clear bd0
 refine ja Z (jn (jx (jq (jq (jr (js (jf Na Z) (js (jl k2 O21 Z Z) (js (Eo Z Z) (jm Z (jg Z Z (.t _) (fun hg=>jf Na Z) (jg Z Z (.t _) (fun hg=>jl k2 O21 (evg Z hg) Z) ?_)))))))))))
 refine jg Z Z (.t _) (fun hg=>Nv (evg Z hg) Z) (js (Cm Z Z) (jm Z (jg Z Z (.t _) (fun hg=>jmv Z) (jzg Z Z (.t _) Wo Z (fun hg=>Pw (evg Z hg) Z) (Vn om11 (by omega) 3 (by first|decide|omega|assumption)) (dc d1 dn) (kd kn) (by split;exact⟨Ih om11.1,om11.2⟩;exact om11.mono (by omega)) fun m22 hm22 om22 bm22=>?_))))
 have w22_0:IntKind.i64.wrap (Ck 3 m11)=Ck 3 m11:=(IntWalk.i64_in _ (by have h9:=@Nh 3 (by omega) m11;omega))
 have tr22:=@Nh 3 (by omega) m11
 clear bm11
 refine jg Z Z (.t _) (fun hg=>Fi (evg Z hg) Z) (js (Cm Z Z) (jn (jx ?_)))
 refine jif Z (fun hc1=>?_) (fun hc1=>?_)
 refine jq (jq (jr (js (jf Nb Z) (js (jl k2 O3 Z Z) (js (Aj Z Z) (jn (jx ?_)))))))
 refine jif Z (fun hc2=>?_) (fun hc2=>?_)
 refine jq (jr (jm Z (js (jf Gh Z) (js (jl k2 O3 Z Z) (jm Z (js (jf Na Z) (js (jl k2 O21 Z Z) (js (jbu (v := .agg #[.int .i64 24,.int .i64 x.Dst,.int .i64 0,.int .i64 (Bd (ix x.Args 0) m),.int .i64 0,.int .i64 0,.int .i32 x.Imm,.slice none 0 0]) Z (fun _=>by kernel_rfl)) (jzb Iw Z Z (Il (i:=⟨24,x.Dst,0,Bd (ix x.Args 0) m,0,0,x.Imm,[]⟩) om22 (by omega)) (dc d1 (dc (Al.M (m:=⟨24,x.Dst,0,Bd (ix x.Args 0) m,0,0,x.Imm,[]⟩) (c:=(.slice none 0 0)) wN (wl 24) (Ae.W_Dst d2) (wl 0) ((wfw d0)) (wl 0) (wl 0) (Ae.W_Imm d2)) dn)) (kd kn) ⟨Ek om22.1,(Gx.trans om22.2)⟩ p0 fun m35 hm35 om35 bm35 ua35 w6=>?_)))))))))
 clear bm22
 refine jn (jx (jrt (jtr (jtr ?_))))
 have hst:m35=Kb x m:=(by(try simp only[hm11,hm22,hm35] at hc1 hc2);(try simp only[hm11,hm22,hm35]);unfold Kb Hm Dm Md;by_cases h1:0≤x.Imm<;>by_cases h2:x.Imm≤255<;>by_cases h3:0<Ck 3 (Bv (ix x.Args 0) m)<;>by_cases h4:x.Op=15<;>simp[h1,h2,h3,h4] at hc1 hc2⊢<;> rfl)
 exact jr0 Z ua35 Z dn (fun _ _=>(kcb (by rw[←hst]) k0 (kcg (by rw[←hst]) k0 kn)))
 refine jsk (jx (jq (jtl 9 Bh (by kernel_rfl) (jt (jmv Z) (jt (jmv Z) (jt (jf Mg Z) (jt (jl k2 O22 Z Z) (jt (jix (i:=1) U22 Z3 (Ae.c_Args d2) Z Z Z (by omega)) (jt (jlI (dix (Ae.c_Args d2) 1 (by omega)) O3 Z) (jt (jf Na Z) (jt (jl k2 O21 Z Z) ?_)))))))))))
 refine jt (jbu (v := .agg #[.int .i64 26,.int .i64 0,.int .i64 0,.int .i64 (Bd (ix x.Args 0) m),.int .i64 (ix x.Args 1),.int .i64 0,.int .i32 x.Imm,.slice none 0 0]) Z (fun _=>by kernel_rfl)) (jtt (jzb Iw Z Z (Il (i:=⟨26,0,0,Bd (ix x.Args 0) m,ix x.Args 1,0,x.Imm,[]⟩) om22 (by omega)) (dc d1 (dc (Al.M (m:=⟨26,0,0,Bd (ix x.Args 0) m,ix x.Args 1,0,x.Imm,[]⟩) (c:=(.slice none 0 0)) wN (wl 26) (wl 0) (wl 0) ((wfw d0)) (wad (dix (Ae.c_Args d2) 1 (by omega))) (wl 0) (Ae.W_Imm d2)) dn)) (kd kn) ⟨Ek om22.1,(Gx.trans om22.2)⟩ p0 fun m45 hm45 om45 bm45 ua45 w7=>?_))
 clear bm22
 refine jn (jx (jrt (jtr ?_)))
 have hst:m45=Kb x m:=(by(try simp only[hm11,hm22,hm45] at hc1 hc2);(try simp only[hm11,hm22,hm45]);unfold Kb Hm Dm Md;by_cases h1:0≤x.Imm<;>by_cases h2:x.Imm≤255<;>by_cases h3:0<Ck 3 (Bv (ix x.Args 0) m)<;>by_cases h4:x.Op=15<;>simp[h1,h2,h3,h4] at hc1 hc2⊢<;> rfl)
 exact jr0 Z ua45 Z dn (fun _ _=>(kcb (by rw[←hst]) k0 (kcg (by rw[←hst]) k0 kn)))
 refine jsk (jx (jq (jr (jm Z (jzr Rr Z Z (Qv om22 (by omega)) (dc d1 dn) (kd kn) ⟨Ju om22.1,om22.2⟩ fun m47 hm47 om47 bm47=>?_)))))
 have w47_0:IntKind.i64.wrap (m22.nx)=m22.nx:=(IntWalk.i64_in _ (by omega))
 clear bm22
 refine ja Z (jn (jx (jq (jr (jm Z (jm Z (js (jf Na Z) (js (jl k2 O21 Z Z) (jwr (Ae.W_Imm d2) fun w8=>jzb B6 Z Z (Yb om47 (by omega) m22.nx x.Imm w47_0 w8) (dc d1 dn) (kd kn) ⟨Pi om47.1,(Ph.trans om47.2)⟩ p0 fun m52 hm52 om52 bm52 ua52 w9=>?_)))))))))
 clear bm47
 refine jn (jx (jq (jq (jr (js (jf Nb Z) (js (jl k2 O3 Z Z) (js (Aj Z Z) (jn (jx ?_)))))))))
 refine jif Z (fun hc3=>?_) (fun hc3=>?_)
 refine jq (jr (jm Z (js (jf Gh Z) (js (jl k2 O3 Z Z) (jm Z (jm Z (js (jbu (v := .agg #[.int .i64 25,.int .i64 x.Dst,.int .i64 0,.int .i64 (Bd (ix x.Args 0) m),.int .i64 m22.nx,.int .i64 0,.int .i32 0,.slice none 0 0]) Z (fun _=>by kernel_rfl)) (jzb Iw Z Z (Il (i:=⟨25,x.Dst,0,Bd (ix x.Args 0) m,m22.nx,0,0,[]⟩) om52 (by omega)) (dc d1 (dc (Al.M (m:=⟨25,x.Dst,0,Bd (ix x.Args 0) m,m22.nx,0,0,[]⟩) (c:=(.slice none 0 0)) wN (wl 25) (Ae.W_Dst d2) (wl 0) ((wfw d0)) (wp w47_0) (wl 0) (wl 0)) dn)) (kd kn) ⟨Ek om52.1,(Gx.trans om52.2)⟩ p0 fun m62 hm62 om62 bm62 ua62 w10=>?_))))))))
 clear bm52
 refine jn (jx (jrt (jtr ?_)))
 have hst:m62=Kb x m:=(by(try simp only[hm11,hm22,hm47,hm52,hm62] at hc1 hc3);(try simp only[hm11,hm22,hm47,hm52,hm62]);unfold Kb Hm Dm Md;by_cases h1:0≤x.Imm<;>by_cases h2:x.Imm≤255<;>by_cases h3:0<Ck 3 (Bv (ix x.Args 0) m)<;>by_cases h4:x.Op=15<;>simp[h1,h2,h3,h4] at hc1 hc3⊢<;> rfl)
 exact jr0 Z ua62 Z dn (fun _ _=>(kcb (by rw[←hst]) k0 (kcg (by rw[←hst]) k0 kn)))
 refine jsk (jx (jr (jm Z (jm Z (jm Z (js (jf Mg Z) (js (jl k2 O22 Z Z) (js (jix (i:=1) U22 Z3 (Ae.c_Args d2) Z Z Z (by omega)) (js (jlI (dix (Ae.c_Args d2) 1 (by omega)) O3 Z) (js (jbu (v := .agg #[.int .i64 27,.int .i64 0,.int .i64 0,.int .i64 (Bd (ix x.Args 0) m),.int .i64 m22.nx,.int .i64 (ix x.Args 1),.int .i32 0,.slice none 0 0]) Z (fun _=>by kernel_rfl)) (jzb Iw Z Z (Il (i:=⟨27,0,0,Bd (ix x.Args 0) m,m22.nx,ix x.Args 1,0,[]⟩) om52 (by omega)) (dc d1 (dc (Al.M (m:=⟨27,0,0,Bd (ix x.Args 0) m,m22.nx,ix x.Args 1,0,[]⟩) (c:=(.slice none 0 0)) wN (wl 27) (wl 0) (wl 0) ((wfw d0)) (wp w47_0) (wad (dix (Ae.c_Args d2) 1 (by omega))) (wl 0)) dn)) (kd kn) ⟨Ek om52.1,(Gx.trans om52.2)⟩ p0 fun m71 hm71 om71 bm71 ua71 w11=>?_)))))))))))
 clear bm52
 refine jn ?_
 have hst:m71=Kb x m:=(by(try simp only[hm11,hm22,hm47,hm52,hm71] at hc1 hc3);(try simp only[hm11,hm22,hm47,hm52,hm71]);unfold Kb Hm Dm Md;by_cases h1:0≤x.Imm<;>by_cases h2:x.Imm≤255<;>by_cases h3:0<Ck 3 (Bv (ix x.Args 0) m)<;>by_cases h4:x.Op=15<;>simp[h1,h2,h3,h4] at hc1 hc3⊢<;> rfl)
 exact jd0 Z ua71 Z dn (fun _ _=>(kcb (by rw[←hst]) k0 (kcg (by rw[←hst]) k0 kn)))
theorem JJ:Ent Tryz.prog 123:=⟨_,Tryz.func123,by kernel_rfl,by kernel_rfl⟩
theorem Aa1:Ent Tryz.prog 125:=⟨_,Tryz.func125,by kernel_rfl,by kernel_rfl⟩
theorem SO{vs al:Value}{m:Mq}{nb c:Nat}{S:List Int}{g0:Nat}{B0:Nat}(hok:Ez nb c S m)(hc:c≤970000){a1:Value}{x:D.Ins}(hop:0≤x.Op∧x.Op≤1000)(hl9:x.Op=1∨x.Op=17∨(x.Op=15∧1≤x.Args.length)∨2≤x.Args.length):KBq Tryz.prog 72 [vIns x a1] [da Ae (vIns x a1) x] g0 vs al S B0 [] m (Da x m) (.tuple #[]):=by
 refine Af (args:=[.pointer (some ⟨g0,0,none⟩),vIns x a1]) Tryz.func72 rfl rfl rfl fun w0 X=>?_
 refine cgo k1 fun w1=>?_
 have bd0:=okQ.bnd hok.1
 refine jq (jr (Bj Z Z fun g3=>jn (jx (jq (jr (js (jf Nb Z) (js (jl k0 O3 Z Z) (jn (jx (jb ?_))))))))))
 refine jq (jr (js (Aj Z Z) (ja Z (jn (jx ?_)))))
 refine jif Z (fun hc1=>?_) (fun hc1=>?_)
 refine jr (jm Z (js (jf Gh Z) (js (jl k0 O3 Z Z) (js (jf Na Z) (js (jl k0 O21 Z Z) (jwr (Ae.W_Dst d1) fun w2=>jwr (Ae.W_Imm d1) fun w3=>jzb B6 Z Z (Yb hok (by omega) x.Dst x.Imm w2 w3) (dc d0 dn) (kc k1 (kc k1 kn)) ⟨Pi hok.1,(Ph.trans hok.2)⟩ p0 fun m16 hm16 om16 bm16 ua16 w4=>?_))))))
 clear bd0
 refine jn (jbn ?_)
 have hst:m16=Da x m:=(by(try simp only[hm16] at hc1);(try simp only[hm16]);all_goals first|rfl|(simp[Da,hc1];done)|(simp[Da,hc1];rfl)|(unfold Da;(repeat' split)<;>first|rfl|(exfalso;omega)|(simp[hc1] at *;done)|(simp_all;done)))
 exact jd0 Z ua16 Z dn (fun _ _=>(kcb (by rw[←hst]) k0 (kcg (by rw[←hst]) k0 kn)))
 refine jq (jq (jr (js (Aj Z Z) (ja Z (jn (jx ?_))))))
 refine jif Z (fun hc2=>?_) (fun hc2=>?_)
 refine jsk (jx ?_)
 refine jif Z (fun hc3=>?_) (fun hc3=>?_)
 refine jr (jm Z (js (jla k0 A67 Z67 Z Z Z) (jzb JJ Z Z (EB hok (by omega) (by first|decide|omega|assumption) (by first|decide|omega|assumption)) (dc d0 (dc d1 dn)) (kc k1 (kc k1 kn)) ⟨J0 hok.1,(I9.trans hok.2)⟩ p0 fun m22 hm22 om22 bm22 ua22 w5=>?_)))
 clear bd0
 refine jn (jbn ?_)
 have hst:m22=Da x m:=(by(try simp only[hm22] at hc1 hc2 hc3);(try simp only[hm22]);all_goals first|rfl|(simp[Da,hc1,hc2,hc3];done)|(simp[Da,hc1,hc2,hc3];rfl)|(unfold Da;(repeat' split)<;>first|rfl|(exfalso;omega)|(simp[hc1,hc2,hc3] at *;done)|(simp_all;done)))
 exact jd0 Z ua22 Z dn (fun _ _=>(kcb (by rw[←hst]) k0 (kcg (by rw[←hst]) k0 kn)))
 exact absurd hc3 (by simp[hc1,hc2])
 refine jr (js (Aj Z Z) (ja Z (jn (jx ?_))))
 refine jif Z (fun hc4=>?_) (fun hc4=>?_)
 refine jr (jm Z (js (jla k0 A67 Z67 Z Z Z) (jzb JJ Z Z (EB hok (by omega) (by first|decide|omega|assumption) (by first|decide|omega|assumption)) (dc d0 (dc d1 dn)) (kc k1 (kc k1 kn)) ⟨J0 hok.1,(I9.trans hok.2)⟩ p0 fun m22 hm22 om22 bm22 ua22 w6=>?_)))
 clear bd0
 refine jn (jbn ?_)
 have hst:m22=Da x m:=(by(try simp only[hm22] at hc1 hc2 hc4);(try simp only[hm22]);all_goals first|rfl|(simp[Da,hc1,hc2,hc4];done)|(simp[Da,hc1,hc2,hc4];rfl)|(unfold Da;(repeat' split)<;>first|rfl|(exfalso;omega)|(simp[hc1,hc2,hc4] at *;done)|(simp_all;done)))
 exact jd0 Z ua22 Z dn (fun _ _=>(kcb (by rw[←hst]) k0 (kcg (by rw[←hst]) k0 kn)))
 refine jq (jr (js (Aj Z Z) (ja Z (jn (jx ?_)))))
 refine jif Z (fun hc5=>?_) (fun hc5=>?_)
 refine Cp true (.a 0 (.a 1 (.a 2 (.a 3 (.a 4 (.a 6 (.a 7 (.o 5 (.o 8 (.a 9 (.o 10 .e))))))))))) Bh (by kernel_rfl) (kc k0 kn) fun F7=>jy Z (jmv Z) (jy Z (jf Gh Z) (jy Z (jl k0 O3 Z Z) (jy Z (jf Na Z) (jy Z (jl k0 O21 Z Z) (jy Z (jf Mg Z) (jy Z (jl k0 O22 Z Z) (jyo Z (Ba (r:=(rI .i64)) (l:=[]) U22 I3 (by decide) Z Z Z ln fun g30=>jyn d0 (kc k1 kn) (jyo Z ?_)))))))))
 refine jdq (Ae.c_Args d3) fun q10 w10=>Qy U22 I3 (by decide) Z k0 Z Z (Ae.c_Args d3) (by omega) fun v33 w11=>jyn d0 (kc k1 kn) (jy Z (jbu (v := .agg #[.int .i64 28,.int .i64 x.Dst,.int .i64 0,.int .i64 0,.int .i64 0,.int .i64 0,.int .i32 x.Imm,v33]) Z (fun _=>by obtain⟨_,_,_,rfl⟩:=w11;kernel_rfl)) (jyo Z (jfz k0 (by omega) (jzb Iw Z Z (Il (i:=⟨28,x.Dst,0,0,0,0,x.Imm,x.Args⟩) hok (by omega)) (dc d4 (dc (Al.M (m:=⟨28,x.Dst,0,0,0,0,x.Imm,x.Args⟩) (c:=v33) d0 (wl 28) (Ae.W_Dst d5) (wl 0) (wl 0) (wl 0) (wl 0) (Ae.W_Imm d5)) dn)) (kc k1 (kc k1 kn)) ⟨Ek hok.1,(Gx.trans hok.2)⟩ p0 fun m35 hm35 om35 bm35 ua35 w14=>?_))))
 clear bd0
 refine jyz d1 (jyd (jbn ?_))
 have hst:m35=Da x m:=(by(try simp only[hm35] at hc1 hc2 hc4 hc5);(try simp only[hm35]);all_goals first|rfl|(simp[Da,hc1,hc2,hc4,hc5];done)|(simp[Da,hc1,hc2,hc4,hc5];rfl)|(unfold Da;(repeat' split)<;>first|rfl|(exfalso;omega)|(simp[hc1,hc2,hc4,hc5] at *;done)|(simp_all;done)))
 exact jd0 Z ua35 Z dn (fun _ _=>(kcb (by rw[←hst]) k0 (kcg (by rw[←hst]) k0 kn)))
 refine jq (jr (js (Aj Z Z) (ja Z (jn (jx ?_)))))
 refine jif Z (fun hc6=>?_) (fun hc6=>?_)
 refine jtl 14 Bh (by kernel_rfl) (jt (jmv Z) (jt (jf Gh Z) (jt (jl k0 O3 Z Z) (jt (jf Zv Z) (jt (jl k0 O3 Z Z) (jt (jf Mg Z) (jt (jl k0 O22 Z Z) (tdq (Ae.c_Args d1) fun q15 w15=>jt (jix (i:=0) U22 Z3 (Ae.c_Args d1) Z Z Z (by omega)) (jt (jlI (dix (Ae.c_Args d1) 0 (by omega)) O3 Z) (jt (jf Mg Z) ?_))))))))))
 refine jt (jl k0 O22 Z Z) (jt (jix (i:=1) U22 Z3 (Ae.c_Args d1) Z Z Z (by omega)) (jt (jlI (dix (Ae.c_Args d1) 1 (by omega)) O3 Z) (jt (jbu (v := .agg #[.int .i64 29,.int .i64 x.Dst,.int .i64 x.Two,.int .i64 (ix x.Args 0),.int .i64 (ix x.Args 1),.int .i64 0,.int .i32 0,.slice none 0 0]) Z (fun _=>by kernel_rfl)) (jtt (jzb Iw Z Z (Il (i:=⟨29,x.Dst,x.Two,ix x.Args 0,ix x.Args 1,0,0,[]⟩) hok (by omega)) (dc d0 (dc (Al.M (m:=⟨29,x.Dst,x.Two,ix x.Args 0,ix x.Args 1,0,0,[]⟩) (c:=(.slice none 0 0)) wN (wl 29) (Ae.W_Dst d1) (Ae.W_Two d1) (wad (dix (Ae.c_Args d1) 0 (by omega))) (wad (dix (Ae.c_Args d1) 1 (by omega))) (wl 0) (wl 0)) dn)) (kc k1 (kc k1 kn)) ⟨Ek hok.1,(Gx.trans hok.2)⟩ p0 fun m52 hm52 om52 bm52 ua52 w16=>?_)))))
 clear bd0
 refine jn (jbn ?_)
 have hst:m52=Da x m:=(by(try simp only[hm52] at hc1 hc2 hc4 hc5 hc6);(try simp only[hm52]);all_goals first|rfl|(simp[Da,hc1,hc2,hc4,hc5,hc6];done)|(simp[Da,hc1,hc2,hc4,hc5,hc6];rfl)|(unfold Da;(repeat' split)<;>first|rfl|(exfalso;omega)|(simp[hc1,hc2,hc4,hc5,hc6] at *;done)|(simp_all;done)))
 exact jd0 Z ua52 Z dn (fun _ _=>(kcb (by rw[←hst]) k0 (kcg (by rw[←hst]) k0 kn)))
 refine jr (jm Z (js (jla k0 A67 Z67 Z Z Z) (jzb Aa1 Z Z (SN hok (by omega) (by first|decide|omega|assumption) (by first|decide|omega|assumption)) (dc d0 (dc d1 dn)) (kc k1 (kc k1 kn)) ⟨U8 hok.1,(U7.trans hok.2)⟩ p0 fun m8 hm8 om8 bm8 ua8 w17=>?_)))
 clear bd0
 refine jn (jbn ?_)
 have hst:m8=Da x m:=(by(try simp only[hm8] at hc1 hc2 hc4 hc5 hc6);(try simp only[hm8]);all_goals first|rfl|(simp[Da,hc1,hc2,hc4,hc5,hc6];done)|(simp[Da,hc1,hc2,hc4,hc5,hc6];rfl)|(unfold Da;(repeat' split)<;>first|rfl|(exfalso;omega)|(simp[hc1,hc2,hc4,hc5,hc6] at *;done)|(simp_all;done)))
 exact jd0 Z ua8 Z dn (fun _ _=>(kcb (by rw[←hst]) k0 (kcg (by rw[←hst]) k0 kn)))
theorem J88:(Tryz.prog.info? 88).bind (·.zero)=some (.agg #[.int .i64 0,.int .i64 0,.int .i64 0,.slice none 0 0,.int .i32 0]):=by kernel_rfl
theorem SP{vs al:Value}{m:Mq}{nb c:Nat}{S:List Int}{g0:Nat}{B0:Nat}(hok:Ez nb c S m)(hc:c≤970000){a1a a1b:Value}{t:D.Term}(hT:(t.Kind≠2∨(1≤t.Args.length∧2≤t.To.length))∧(t.Kind≠3∨1≤t.Args.length)):KEq Tryz.prog 73 [vTerm t (a1a,a1b)] [da Ay (vTerm t (a1a,a1b)) t] g0 vs al S B0 Bi vEnd (Bt t m) m (Cl t m):=by
 refine Af (args:=[.pointer (some ⟨g0,0,none⟩),vTerm t (a1a,a1b)]) Tryz.func73 rfl rfl rfl fun w0 X=>?_
 refine cgo k1 fun w1=>?_
 have bd0:=okQ.bnd hok.1
 refine jq (jr (Bj Z Z fun g3=>Bg J88 Z fun g4=>jn (jx (jq ?_))))
 refine jjo (u2 fun(g9:Nat) (v9:Value)=>⟨IntKind.i32.wrap t.Imm=t.Imm∧t.To.length<1073741824,[dv (rL (rI .i64)) vs S,da Ay (vTerm t (a1a,a1b)) t],[bx g9 88 [.int .i64 0,.int .i64 0,.int .i64 0,v9,.int .i32 t.Imm],gl X.n (rI .i64) 3 v9 t.To,bx g4 88 [.int .i64 0,.int .i64 0,.int .i64 0,.slice none 0 0,.int .i32 0],bx g3 60 [.int .i64 t.Kind,a1a,a1b,.int .i32 t.Imm],bx g0 139 [vs,.int .i64 m.k,.int .i64 m.nx,al],gl B0 Al 24 al m.l],[(0,.pointer (some ⟨g0,0,none⟩)),(3,.pointer (some ⟨g3,0,none⟩)),(4,.pointer (some ⟨g4,0,none⟩)),(5,.pointer (some ⟨g9,0,none⟩))]⟩) ?_ ?_
 refine Cp false (.a 1 (.a 2 (.a 4 (.a 5 (.w 0 7 (.w 3 7 (.a 6 (.o 7 (.o 8 .e))) (.o 3 (.a 6 (.o 8 .e)))) (.o 0 (.o 3 (.a 6 (.o 8 .e))))))))) Bh (by kernel_rfl) (kc k1 kn) fun F3=>jy Z (jf Ib Z) (jy Z (jl k0 O22 Z Z) (jy Z (jf S0 Z) (jy Z (jl k0 O21 Z Z) ?_)))
 refine jyw Z Z ?_ ?_
 refine Ba (r:=(rI .i64)) (l:=[]) U22 I3 (by decide) Z Z Z ln fun g8=>jyn d0 (kc k2 kn) ?_
 refine jyw Z Z ?_ ?_
 refine jdq (Ay.c_To d3) fun q6 w6=>Qy U22 I3 (by decide) Z k0 Z Z (Ay.c_To d3) (by omega) fun v11 w7=>jyn d0 (kc k2 kn) (jy Z (jbu (v := .agg #[.int .i64 0,.int .i64 0,.int .i64 0,v11,.int .i32 t.Imm]) Z (fun _=>by obtain⟨_,_,_,rfl⟩:=w7;kernel_rfl)) (jyo Z (Bg J88 Z fun g5=>jyn d0 (kc k3 kn) (jyo Z (Az k0 Z88 Z Z Z ⟨Z,Z,Z,w7.one,Z,trivial⟩ (saf Z) (jyn d0 (kc k3 kn) (jyd (qwr (Ay.W_Imm d5) fun w10=>?_))))))))
 exact jje (g5,v11) ⟨w10,by omega⟩ (dc d4 (dc d5 dn)) (kd (kd (kd kn))) ⟨Z,Z,Z,Z,trivial⟩
 refine Bg J88 Z fun g5=>jyn d0 (kc k3 kn) (jyo Z (jdq (Ay.c_To d4) fun q7 w7=>Qy U22 I3 (by decide) Z k1 Z Z (Ay.c_To d4) (by omega) fun v11 w8=>jyn d0 (kc k3 kn) (jy Z (jbu (v := .agg #[.int .i64 0,.int .i64 0,.int .i64 0,v11,.int .i32 t.Imm]) Z (fun _=>by obtain⟨_,_,_,rfl⟩:=w8;kernel_rfl)) (jyo Z (Az k1 Z88 Z Z Z ⟨Z,Z,Z,w8.one,Z,trivial⟩ (saf Z) (jyn d0 (kc k3 kn) (jyd (qwr (Ay.W_Imm d5) fun w10=>?_))))))))
 exact jje (g5,v11) ⟨w10,by omega⟩ (dc d4 (dc d5 dn)) (kd (kd (kd kn))) ⟨Z,Z,Z,Z,trivial⟩
 refine Bg J88 Z fun g5=>jyn d0 (kc k2 kn) (jyo Z (Ba (r:=(rI .i64)) (l:=[]) U22 I3 (by decide) Z Z Z ln fun g8=>jyn d0 (kc k3 kn) (jyo Z (jdq (Ay.c_To d4) fun q7 w7=>Qy U22 I3 (by decide) Z k0 Z Z (Ay.c_To d4) (by omega) fun v11 w8=>jyn d0 (kc k3 kn) (jy Z (jbu (v := .agg #[.int .i64 0,.int .i64 0,.int .i64 0,v11,.int .i32 t.Imm]) Z (fun _=>by obtain⟨_,_,_,rfl⟩:=w8;kernel_rfl)) (jyo Z (Az k1 Z88 Z Z Z ⟨Z,Z,Z,w8.one,Z,trivial⟩ (saf Z) ?_)))))))
 refine jyn d0 (kc k3 kn) (jyd (qwr (Ay.W_Imm d5) fun w10=>?_))
 exact jje (g5,v11) ⟨w10,by omega⟩ (dc d4 (dc d5 dn)) (kd (kd (kd kn))) ⟨Z,Z,Z,Z,trivial⟩
 rintro⟨g9,v9⟩;dsimp only[u2];rintro⟨ww9,ln9⟩
 refine qgo k1 fun w11=>jx (jq (jq (jr (js (jf Qd Z) (js (jl k3 O3 Z Z) (jn (jx (jb (jq (jr ?_))))))))))
 refine js (Aj Z Z) (ja Z (jn (jx ?_)))
 refine jif Z (fun hc1=>?_) (fun hc1=>?_)
 refine jr (js (jf Jt Z) (jst k0 Z3 Z Z Z s0 (jn (jbn (jx (jq (jr (js (jla k0 A88 Z88 Z Z Z) (Az k2 Z88 Z Z Z ⟨Z,Z,Z,w11.one,Z,trivial⟩ (saf Z) (jn (jx ?_)))))))))))
 refine jrt (qfz k2 (by omega) ?_)
 have hv0:Bt t m=(⟨1,0,0,t.To,t.Imm⟩):=(by all_goals first|rfl|((first|unfold Bt|unfold Cl);(repeat' split)<;>first|rfl|(exfalso;omega)|(simp_all;done)))
 have hst:m=Cl t m:=(by all_goals first|rfl|((first|unfold Bt|unfold Cl);(repeat' split)<;>first|rfl|(exfalso;omega)|(simp_all;done)))
 exact jrc Z Z k0 A88 Z88 (al,v9) (by rw[hv0]<;>rfl) (dc (Py vEnd hv0 (Bi.M (m:=⟨1,0,0,t.To,t.Imm⟩) (c:=v9) d0 (wl 1) (wl 0) (wl 0) (wp ww9))) dn) (fun _ _=>(kcb (by rw[←hst]) k3 (kcg (by rw[←hst]) k3 kn)))
 refine jq (jr (js (Aj Z Z) (ja Z (jn (jx ?_)))))
 refine jif Z (fun hc2=>?_) (fun hc2=>?_)
 refine jq (jr (js (jf Jt Z) (jst k0 Z3 Z Z Z s0 (jn (jx (jq (jr (js (jf Le Z) (js (jl k3 O22 Z Z) (jdq (Ay.c_Args d1) fun q13 w13=>js (jix (i:=0) U22 Z3 (Ay.c_Args d1) Z Z Z (by omega)) ?_))))))))))
 refine js (jlI (dix (Ay.c_Args d1) 0 (by omega)) O3 Z) (js (jf Oa Z) (jst k0 Z3 Z Z Z s1 (jn (jx (jq (jr (jm Z (jzr Wo Z Z (Vn hok (by omega) 4 (by first|decide|omega|assumption)) (dc d0 dn) (kc k4 (kc k4 kn)) ⟨Ih hok.1,hok.2⟩ fun m30 hm30 om30 bm30=>?_))))))))
 have w30_0:IntKind.i64.wrap (Ck 4 m)=Ck 4 m:=(IntWalk.i64_in _ (by have h9:=@Nh 4 (by omega) m;omega))
 have tr30:=@Nh 4 (by omega) m
 clear bd0
 refine ja Z (jn (jx (jq (jq (jr (jm Z (js (Fi Z Z) (jn (jx ?_)))))))))
 refine jif Z (fun hc3=>?_) (fun hc3=>?_)
 refine jq (jr (js (jla k2 A88 Z88 Z Z Z) (Az k4 Z88 Z Z Z ⟨Z,Z,Z,w11.one,Z,trivial⟩ (saf Z) (jn (jx (jrt (jtr (jbr (jtr (qfz k4 (by omega) ?_))))))))))
 have hv0:Bt t m=(⟨2,ix t.Args 0,0,t.To,t.Imm⟩):=(by(try simp only[hm30] at hc1 hc2 hc3);(try simp only[hm30]);all_goals first|rfl|((first|unfold Bt|unfold Cl);(repeat' split)<;>first|rfl|(exfalso;omega)|(simp_all;done)))
 have hst:m30=Cl t m:=(by(try simp only[hm30] at hc1 hc2 hc3);(try simp only[hm30]);all_goals first|rfl|((first|unfold Bt|unfold Cl);(repeat' split)<;>first|rfl|(exfalso;omega)|(simp_all;done)))
 exact jrc Z Z k0 A88 Z88 (al,v9) (by rw[hv0]<;>rfl) (dc (Py vEnd hv0 (Bi.M (m:=⟨2,ix t.Args 0,0,t.To,t.Imm⟩) (c:=v9) d0 (wl 2) (wad (dix (Ay.c_Args d2) 0 (by omega))) (wl 0) (wp ww9))) dn) (fun _ _=>(kcb (by rw[←hst]) k1 (kcg (by rw[←hst]) k1 kn)))
 refine jsk (jx (jq (jr (jm Z (jzr Rr Z Z (Qv om30 (by omega)) (dc d0 dn) (kd kn) ⟨Ju om30.1,om30.2⟩ fun m35 hm35 om35 bm35=>?_)))))
 have w35_0:IntKind.i64.wrap (m30.nx)=m30.nx:=(IntWalk.i64_in _ (by omega))
 clear bm30
 refine ja Z (jn (jx (jq (jr (jm Z (jm Z (jzb B6 Z Z (Yb om35 (by omega) m30.nx 0 w35_0 (by decide)) (dc d0 dn) (kd kn) ⟨Pi om35.1,(Ph.trans om35.2)⟩ p0 fun m38 hm38 om38 bm38 ua38 w15=>?_)))))))
 clear bm35
 refine jn (jx (jq (jr (js (jf Jt Z) (jst k2 Z3 Z Z Z s0 (jn (jx (jq (jr (jm Z (js (jf Oa Z) ?_)))))))))))
 refine jst k0 Z3 Z Z Z s1 (jn (jx (jq (jr (js (jf Le Z) (js (jl k5 O22 Z Z) (js (jix (i:=0) U22 Z3 (Ay.c_Args d1) Z Z Z (by omega)) (js (jlI (dix (Ay.c_Args d1) 0 (by omega)) O3 Z) (js (jf R9 Z) (jst k0 Z3 Z Z Z s2 (jn ?_)))))))))))
 refine jx (jq (jr (jm Z (js (Aj Z Z) (jn (jx ?_))))))
 refine jif Z (fun hc4=>?_) (fun hc4=>?_)
 refine jq (jr (js (jf Jt Z) (jst k0 Z3 Z Z Z s0 (jn (jx (Cp true (.a 0 (.a 1 (.a 2 (.a 3 (.a 4 (.a 5 (.a 6 (.a 7 (.o 8 (.a 9 (.o 10 .e))))))))))) Bh (by kernel_rfl) (kc k5 kn) fun F16=>jy Z (jf Ib Z) (jy Z (jl k0 O22 Z Z) (adq (Ay.c_To d1) fun q17 w17=>jy Z (jix (i:=1) U22 Z3 (Ay.c_To d1) Z Z Z (by omega)) (jy Z (jlI (dix (Ay.c_To d1) 1 (by omega)) O3 Z) ?_)))))))))
 refine jy Z (jf Ib Z) (jy Z (jl k0 O22 Z Z) (jy Z (jix (i:=0) U22 Z3 (Ay.c_To d1) Z Z Z (by omega)) (jy Z (jlI (dix (Ay.c_To d1) 0 (by omega)) O3 Z) (jyo Z (Ba (r:=(rI .i64)) (l:=[ix t.To 1,ix t.To 0]) U22 I3 (by decide) Z Z Z (lV Z Z (wI (wad (dix (Ay.c_To d2) 1 (by omega)))) (lV Z Z (wI (wad (dix (Ay.c_To d2) 0 (by omega)))) ln)) fun g58=>jyn d0 (kc k6 kn) (jy Z (jf Nz Z) (jyo Z (jst k1 Z22 Z Z Z s3 (jyz d0 (jyd ?_))))))))))
 refine jbn (jx (jq (jr (js (jla k0 A88 Z88 Z Z Z) (Az k5 Z88 Z Z Z ⟨Z,Z,Z,Z,Z,trivial⟩ (saf Z) (jn (jx (jrt (qfz k2 (by(try simp)<;>omega) ?_)))))))))
 have hv0:Bt t m=(⟨3,m30.nx,ix t.Args 0,[ix t.To 1,ix t.To 0],t.Imm⟩):=(by(try simp only[hm30,hm35,hm38] at hc1 hc2 hc3 hc4);(try simp only[hm30,hm35,hm38]);all_goals first|rfl|((first|unfold Bt|unfold Cl);(repeat' split)<;>first|rfl|(exfalso;omega)|(simp_all;done)))
 have hst:m38=Cl t m:=(by(try simp only[hm30,hm35,hm38] at hc1 hc2 hc3 hc4);(try simp only[hm30,hm35,hm38]);all_goals first|rfl|((first|unfold Bt|unfold Cl);(repeat' split)<;>first|rfl|(exfalso;omega)|(simp_all;done)))
 exact jrc Z Z k0 A88 Z88 (ua38,(.slice (some ⟨g58,0,none⟩) 2 2)) (by rw[hv0]<;>rfl) (dc (Py vEnd hv0 (Bi.M (m:=⟨3,m30.nx,ix t.Args 0,[ix t.To 1,ix t.To 0],t.Imm⟩) (c:=(.slice (some ⟨g58,0,none⟩) 2 2)) d0 (wl 3) (wp w35_0) (wad (dix (Ay.c_Args d4) 0 (by omega))) (wp ww9))) dn) (fun _ _=>(kcb (by rw[←hst]) k2 (kcg (by rw[←hst]) k2 kn)))
 refine jsk (jbn (jx (jq (jr (js (jla k0 A88 Z88 Z Z Z) (Az k4 Z88 Z Z Z ⟨Z,Z,Z,w11.one,Z,trivial⟩ (saf Z) (jn (jx (jrt (qfz k4 (by omega) ?_))))))))))
 have hv0:Bt t m=(⟨5,m30.nx,ix t.Args 0,t.To,t.Imm⟩):=(by(try simp only[hm30,hm35,hm38] at hc1 hc2 hc3 hc4);(try simp only[hm30,hm35,hm38]);all_goals first|rfl|((first|unfold Bt|unfold Cl);(repeat' split)<;>first|rfl|(exfalso;omega)|(simp_all;done)))
 have hst:m38=Cl t m:=(by(try simp only[hm30,hm35,hm38] at hc1 hc2 hc3 hc4);(try simp only[hm30,hm35,hm38]);all_goals first|rfl|((first|unfold Bt|unfold Cl);(repeat' split)<;>first|rfl|(exfalso;omega)|(simp_all;done)))
 exact jrc Z Z k0 A88 Z88 (ua38,v9) (by rw[hv0]<;>rfl) (dc (Py vEnd hv0 (Bi.M (m:=⟨5,m30.nx,ix t.Args 0,t.To,t.Imm⟩) (c:=v9) d0 (wl 5) (wp w35_0) (wad (dix (Ay.c_Args d2) 0 (by omega))) (wp ww9))) dn) (fun _ _=>(kcb (by rw[←hst]) k2 (kcg (by rw[←hst]) k2 kn)))
 refine jq (jr (js (Aj Z Z) (ja Z (jn (jx ?_)))))
 refine jif Z (fun hc5=>?_) (fun hc5=>?_)
 refine jq (jr (js (jf Jt Z) (jst k0 Z3 Z Z Z s0 (jn (jx (jr (js (jf Le Z) (js (jl k3 O22 Z Z) (jdq (Ay.c_Args d1) fun q22 w22=>js (jix (i:=0) U22 Z3 (Ay.c_Args d1) Z Z Z (by omega)) (js (jlI (dix (Ay.c_Args d1) 0 (by omega)) O3 Z) ?_))))))))))
 refine js (jf Oa Z) (jst k0 Z3 Z Z Z s1 (jn (jbn (jx (jq (jr (js (jla k0 A88 Z88 Z Z Z) (Az k2 Z88 Z Z Z ⟨Z,Z,Z,w11.one,Z,trivial⟩ (saf Z) (jn (jx (jrt ?_)))))))))))
 refine qfz k2 (by omega) ?_
 have hv0:Bt t m=(⟨6,ix t.Args 0,0,t.To,t.Imm⟩):=(by all_goals first|rfl|((first|unfold Bt|unfold Cl);(repeat' split)<;>first|rfl|(exfalso;omega)|(simp_all;done)))
 have hst:m=Cl t m:=(by all_goals first|rfl|((first|unfold Bt|unfold Cl);(repeat' split)<;>first|rfl|(exfalso;omega)|(simp_all;done)))
 exact jrc Z Z k0 A88 Z88 (al,v9) (by rw[hv0]<;>rfl) (dc (Py vEnd hv0 (Bi.M (m:=⟨6,ix t.Args 0,0,t.To,t.Imm⟩) (c:=v9) d0 (wl 6) (wad (dix (Ay.c_Args d2) 0 (by omega))) (wl 0) (wp ww9))) dn) (fun _ _=>(kcb (by rw[←hst]) k3 (kcg (by rw[←hst]) k3 kn)))
 refine jq (jr (js (Aj Z Z) (ja Z (jn (jx ?_)))))
 refine jif Z (fun hc6=>?_) (fun hc6=>?_)
 refine jq (jr (js (jf Jt Z) (jst k0 Z3 Z Z Z s0 (jn (jx (jq (jr (js (jf Oa Z) (jst k0 Z3 Z Z Z s1 (jn (jx ?_)))))))))))
 refine jq (jr (js (jf Le Z) (js (jl k3 O22 Z Z) (jdq (Ay.c_Args d1) fun q24 w24=>js (jln U22 (Ay.c_Args d1) Z) (js (Fi Z Z) (jn (jx ?_)))))))
 refine jif Z (fun hc7=>?_) (fun hc7=>?_)
 refine jr (jm Z (js (jf Le Z) (js (jl k3 O22 Z Z) (js (jix (i:=0) U22 Z3 (Ay.c_Args d1) Z Z Z (by omega)) (js (jlI (dix (Ay.c_Args d1) 0 (by omega)) O3 Z) (jwr (wad (dix (Ay.c_Args d1) 0 (by omega))) fun w25=>jzb B5 Z Z (Yc hok (by omega) (ix t.Args 0) w25) (dc d0 dn) (kc k4 (kc k4 kn)) ⟨Qa hok.1,(Pz.trans hok.2)⟩ p1 fun m81 hm81 om81 bm81 ua81 w26=>?_))))))
 clear bd0
 refine js (jf Oa Z) (jst k2 Z3 Z Z Z s1 (jn (jbn (jx (jq (jr (js (jla k0 A88 Z88 Z Z Z) (Az k4 Z88 Z Z Z ⟨Z,Z,Z,w11.one,Z,trivial⟩ (saf Z) (jn (jx (jrt ?_)))))))))))
 refine qfz k4 (by omega) ?_
 have hv0:Bt t m=(⟨7,Bd (ix t.Args 0) m,0,t.To,t.Imm⟩):=(by(try simp only[hm81] at hc1 hc2 hc5 hc6 hc7);(try simp only[hm81]);all_goals first|rfl|((first|unfold Bt|unfold Cl);(repeat' split)<;>first|rfl|(exfalso;omega)|(simp_all;done)))
 have hst:m81=Cl t m:=(by(try simp only[hm81] at hc1 hc2 hc5 hc6 hc7);(try simp only[hm81]);all_goals first|rfl|((first|unfold Bt|unfold Cl);(repeat' split)<;>first|rfl|(exfalso;omega)|(simp_all;done)))
 exact jrc Z Z k0 A88 Z88 (ua81,v9) (by rw[hv0]<;>rfl) (dc (Py vEnd hv0 (Bi.M (m:=⟨7,Bd (ix t.Args 0) m,0,t.To,t.Imm⟩) (c:=v9) d0 (wl 7) ((wfw d1)) (wl 0) (wp ww9))) dn) (fun _ _=>(kcb (by rw[←hst]) k2 (kcg (by rw[←hst]) k2 kn)))
 refine jsk (jbn (jx (jq (jr (js (jla k0 A88 Z88 Z Z Z) (Az k2 Z88 Z Z Z ⟨Z,Z,Z,w11.one,Z,trivial⟩ (saf Z) (jn (jx (jrt (qfz k2 (by omega) ?_))))))))))
 have hv0:Bt t m=(⟨7,(-1),0,t.To,t.Imm⟩):=(by all_goals first|rfl|((first|unfold Bt|unfold Cl);(repeat' split)<;>first|rfl|(exfalso;omega)|(simp_all;done)))
 have hst:m=Cl t m:=(by all_goals first|rfl|((first|unfold Bt|unfold Cl);(repeat' split)<;>first|rfl|(exfalso;omega)|(simp_all;done)))
 exact jrc Z Z k0 A88 Z88 (al,v9) (by rw[hv0]<;>rfl) (dc (Py vEnd hv0 (Bi.M (m:=⟨7,(-1),0,t.To,t.Imm⟩) (c:=v9) d0 (wl 7) (wl (-1)) (wl 0) (wp ww9))) dn) (fun _ _=>(kcb (by rw[←hst]) k3 (kcg (by rw[←hst]) k3 kn)))
 refine jr (js (jf Jt Z) (jst k0 Z3 Z Z Z s0 (jn (jbn (jx (jq (jr (js (jla k0 A88 Z88 Z Z Z) (Az k2 Z88 Z Z Z ⟨Z,Z,Z,w11.one,Z,trivial⟩ (saf Z) (jn (jx ?_)))))))))))
 refine jrt (qfz k2 (by omega) ?_)
 have hv0:Bt t m=(⟨8,0,0,t.To,t.Imm⟩):=(by all_goals first|rfl|((first|unfold Bt|unfold Cl);(repeat' split)<;>first|rfl|(exfalso;omega)|(simp_all;done)))
 have hst:m=Cl t m:=(by all_goals first|rfl|((first|unfold Bt|unfold Cl);(repeat' split)<;>first|rfl|(exfalso;omega)|(simp_all;done)))
 exact jrc Z Z k0 A88 Z88 (al,v9) (by rw[hv0]<;>rfl) (dc (Py vEnd hv0 (Bi.M (m:=⟨8,0,0,t.To,t.Imm⟩) (c:=v9) d0 (wl 8) (wl 0) (wl 0) (wp ww9))) dn) (fun _ _=>(kcb (by rw[←hst]) k3 (kcg (by rw[←hst]) k3 kn)))
end Go.Proofs.YtmfkkodnghambaaGreat
