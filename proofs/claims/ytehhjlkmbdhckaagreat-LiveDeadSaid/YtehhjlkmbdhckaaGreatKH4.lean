/- Lemmas that the claim is made of. Conditions: each lemma names its own. -/
import Derived.Test.YtehhjlkmbdhckaaGreatKH3
import Derived.Test.YtehhjlkmbdhckaaGreatKH2
set_option linter.unusedSectionVars false
set_option linter.unusedSimpArgs false
set_option linter.unusedVariables false
namespace Go.Proofs.YtehhjlkmbdhckaaGreat
open Go.JE
theorem E141:Ent Tryz.prog 141:=⟨_,Tryz.func141,by kernel_rfl,by kernel_rfl⟩
theorem E147:Ent Tryz.prog 147:=⟨_,Tryz.func147,by kernel_rfl,by kernel_rfl⟩
theorem F163_4:Fld Tryz.prog 163 4 4:=⟨_,_,Tryz.underlying163,rfl,rfl,1,(by unfold Sz;kernel_rfl),by decide⟩
set_option maxRecDepth 4000 in
theorem m7two_ct{vs al:Value}{m:Mq}{nb c:Nat}{S:List Int}{g0:Nat}{B0:Nat}(hok:okSq nb c S m)(hc:c≤980000){a1:Value}{x:D.Ins}(hop:0≤x.Op∧x.Op≤1000)(hl2:2≤x.Args.length):KBq Tryz.prog 144 [vIns x a1] [da rIns (vIns x a1) x] g0 vs al S B0 [] m (twoQ x m) (.tuple #[]):=by
 refine jenter (args:=[.pointer (some ⟨g0,0,none⟩),vIns x a1]) Tryz.func144 rfl rfl rfl fun w0 X=>?_
 refine cgo k1 fun w1=>?_
 have bd0:=okQ.bnd hok.1
 refine jq (jr (jbox Z Z fun g3=>jn (jx (jq (jr (js (jf F163_0 Z) (js (jl k0 O3 Z Z) (js (jsub Z Z (by omega)) (js (jadd Z Z (by omega)) (ja Z ?_))))))))))
 refine jn (jx (jq (jr (jm Z (js (jf F163_3 Z) (js (jl k0 O22 Z Z) (jdq (rIns.c_Args d1) fun q2 w2=>js (jix (i:=0) U22 Z3 (rIns.c_Args d1) Z Z Z (by omega)) (js (jlI (dix (rIns.c_Args d1) 0 (by omega)) O3 Z) (jwr (wad (dix (rIns.c_Args d1) 0 (by omega))) fun w3=>jzb E147 Z Z (m7cop_ct hok (by omega) (ix x.Args 0) w3) (dc d0 dn) (kc k1 (kc k1 kn)) ⟨copQ_ok hok.1,(copQ_s.trans hok.2)⟩ p1 fun m20 hm20 om20 bm20 ua20 w4=>?_)))))))))
 clear bd0
 refine ja Z (jn (jx (jq (jr (jm Z (js (jf F163_3 Z) (js (jl k2 O22 Z Z) (js (jix (i:=1) U22 Z3 (rIns.c_Args d2) Z Z Z (by omega)) (js (jlI (dix (rIns.c_Args d2) 1 (by omega)) O3 Z) (jwr (wad (dix (rIns.c_Args d2) 1 (by omega))) fun w6=>jzb E147 Z Z (m7cop_ct om20 (by omega) (ix x.Args 1) w6) (dc d1 dn) (kd kn) ⟨copQ_ok om20.1,(copQ_s.trans om20.2)⟩ p1 fun m26 hm26 om26 bm26 ua26 w7=>?_))))))))))
 clear bm20
 refine ja Z (jn (jx (jq (jr (jm Z (jzr E145 Z Z (m7take_ct om26 (by omega) 6 (by first|decide|omega|assumption)) (dc d2 dn) (kd kn) ⟨takeQ_ok om26.1,om26.2⟩ fun m28 hm28 om28 bm28=>?_))))))
 have w28_0:IntKind.i64.wrap (takeQV 6 m26)=takeQV 6 m26:=(IntWalk.i64_in _ (by have h9:=@takeQV_rng 6 (by omega) m26;omega))
 have tr28:=@takeQV_rng 6 (by omega) m26
 clear bm26
 refine jn (jx (jb (jq (jr (js (jeql Z Z) (ja Z (jn (jx ?_))))))))
 refine jif Z (fun hc1=>?_) (fun hc1=>?_)
 refine jq (jr (jm Z (jzr E146 Z Z (m7temp_ct om28 (by omega)) (dc d2 dn) (kd kn) ⟨tempQ_ok om28.1,om28.2⟩ fun m40 hm40 om40 bm40=>?_)))
 have w40_0:IntKind.i64.wrap (m28.nx)=m28.nx:=(IntWalk.i64_in _ (by omega))
 clear bm28
 refine ja Z (jn (jx (jq (jr (jm Z (jzr E146 Z Z (m7temp_ct om40 (by omega)) (dc d2 dn) (kd kn) ⟨tempQ_ok om40.1,om40.2⟩ fun m42 hm42 om42 bm42=>?_))))))
 have w42_0:IntKind.i64.wrap (m40.nx)=m40.nx:=(IntWalk.i64_in _ (by omega))
 clear bm40
 refine ja Z (jn (jx (jq (jr (jm Z (jm Z (jm Z (jm Z (jm Z (js (jbu (v := .agg #[.int .i64 ((x.Op-2)+5),.int .i64 m28.nx,.int .i64 0,.int .i64 (copV (ix x.Args 0) m),.int .i64 (copV (ix x.Args 1) m20),.int .i64 0,.int .i32 0,.slice none 0 0]) Z (fun _=>by kernel_rfl)) (jzb E143 Z Z (m7put_ct (i:=⟨(x.Op-2)+5,m28.nx,0,copV (ix x.Args 0) m,copV (ix x.Args 1) m20,0,0,[]⟩) om42 (by omega)) (dc d2 (dc (rMach.M (m:=⟨(x.Op-2)+5,m28.nx,0,copV (ix x.Args 0) m,copV (ix x.Args 1) m20,0,0,[]⟩) (c:=(.slice none 0 0)) wN (wp (IntWalk.i64_in ((x.Op-2)+5) (by omega))) (wp w40_0) (wl 0) ((wfw d1)) ((wfw d0)) (wl 0) (wl 0)) dn)) (kd kn) ⟨putQ_ok om42.1,(putQ_s.trans om42.2)⟩ p0 fun m49 hm49 om49 bm49 ua49 w9=>?_)))))))))))
 clear bm42
 refine jn (jx (jq (jr (jm Z (jm Z (jm Z (js (jbu (v := .agg #[.int .i64 18,.int .i64 m40.nx,.int .i64 0,.int .i64 m28.nx,.int .i64 0,.int .i64 0,.int .i32 100,.slice none 0 0]) Z (fun _=>by kernel_rfl)) (jzb E143 Z Z (m7put_ct (i:=⟨18,m40.nx,0,m28.nx,0,0,100,[]⟩) om49 (by omega)) (dc d2 (dc (rMach.M (m:=⟨18,m40.nx,0,m28.nx,0,0,100,[]⟩) (c:=(.slice none 0 0)) wN (wl 18) (wp w42_0) (wl 0) (wp w40_0) (wl 0) (wl 0) (wl 100)) dn)) (kd kn) ⟨putQ_ok om49.1,(putQ_s.trans om49.2)⟩ p0 fun m54 hm54 om54 bm54 ua54 w10=>?_))))))))
 clear bm49
 refine jn (jx (jr (jm Z (js (jf F163_1 Z) (js (jl k2 O3 Z Z) (jm Z (js (jbu (v := .agg #[.int .i64 18,.int .i64 x.Dst,.int .i64 0,.int .i64 m40.nx,.int .i64 0,.int .i64 0,.int .i32 ((-100)),.slice none 0 0]) Z (fun _=>by kernel_rfl)) (jzb E143 Z Z (m7put_ct (i:=⟨18,x.Dst,0,m40.nx,0,0,(-100),[]⟩) om54 (by omega)) (dc d2 (dc (rMach.M (m:=⟨18,x.Dst,0,m40.nx,0,0,(-100),[]⟩) (c:=(.slice none 0 0)) wN (wl 18) (rIns.W_Dst d3) (wl 0) (wp w42_0) (wl 0) (wl 0) (wl (-100))) dn)) (kd kn) ⟨putQ_ok om54.1,(putQ_s.trans om54.2)⟩ p0 fun m60 hm60 om60 bm60 ua60 w11=>?_))))))))
 clear bm54
 refine jn (jbn ?_)
 have hst:m60=twoQ x m:=(by(try simp only[hm20,hm26,hm28,hm40,hm42,hm49,hm54,hm60] at hc1);(try simp only[hm20,hm26,hm28,hm40,hm42,hm49,hm54,hm60]);all_goals first|rfl|(simp[twoQ,two3,opQ,hc1];done)|(simp[twoQ,two3,opQ,hc1];rfl)|(unfold twoQ two3 opQ;(repeat' split)<;>first|rfl|(exfalso;omega)|(simp[hc1] at *;done)|(simp_all;done)))
 exact jd0 Z ua60 Z dn (fun _ _=>(kcb (by rw[←hst]) k0 (kcg (by rw[←hst]) k0 kn)))
 refine jq (jr (js (jeql Z Z) (ja Z (jn (jx ?_)))))
 refine jif Z (fun hc2=>?_) (fun hc2=>?_)
 refine jq (jr (jm Z (jzr E146 Z Z (m7temp_ct om28 (by omega)) (dc d2 dn) (kd kn) ⟨tempQ_ok om28.1,om28.2⟩ fun m64 hm64 om64 bm64=>?_)))
 have w64_0:IntKind.i64.wrap (m28.nx)=m28.nx:=(IntWalk.i64_in _ (by omega))
 clear bm28
 refine ja Z (jn (jx (jq (jr (jm Z (jm Z (jm Z (jm Z (jm Z (js (jbu (v := .agg #[.int .i64 ((x.Op-2)+5),.int .i64 m28.nx,.int .i64 0,.int .i64 (copV (ix x.Args 0) m),.int .i64 (copV (ix x.Args 1) m20),.int .i64 0,.int .i32 0,.slice none 0 0]) Z (fun _=>by kernel_rfl)) (jzb E143 Z Z (m7put_ct (i:=⟨(x.Op-2)+5,m28.nx,0,copV (ix x.Args 0) m,copV (ix x.Args 1) m20,0,0,[]⟩) om64 (by omega)) (dc d2 (dc (rMach.M (m:=⟨(x.Op-2)+5,m28.nx,0,copV (ix x.Args 0) m,copV (ix x.Args 1) m20,0,0,[]⟩) (c:=(.slice none 0 0)) wN (wp (IntWalk.i64_in ((x.Op-2)+5) (by omega))) (wp w64_0) (wl 0) ((wfw d1)) ((wfw d0)) (wl 0) (wl 0)) dn)) (kd kn) ⟨putQ_ok om64.1,(putQ_s.trans om64.2)⟩ p0 fun m71 hm71 om71 bm71 ua71 w12=>?_)))))))))))
 clear bm64
 refine jn (jx (jr (jm Z (js (jf F163_1 Z) (js (jl k2 O3 Z Z) (jm Z (js (jbu (v := .agg #[.int .i64 20,.int .i64 x.Dst,.int .i64 0,.int .i64 m28.nx,.int .i64 0,.int .i64 0,.int .i32 0,.slice none 0 0]) Z (fun _=>by kernel_rfl)) (jzb E143 Z Z (m7put_ct (i:=⟨20,x.Dst,0,m28.nx,0,0,0,[]⟩) om71 (by omega)) (dc d2 (dc (rMach.M (m:=⟨20,x.Dst,0,m28.nx,0,0,0,[]⟩) (c:=(.slice none 0 0)) wN (wl 20) (rIns.W_Dst d3) (wl 0) (wp w64_0) (wl 0) (wl 0) (wl 0)) dn)) (kd kn) ⟨putQ_ok om71.1,(putQ_s.trans om71.2)⟩ p0 fun m77 hm77 om77 bm77 ua77 w13=>?_))))))))
 clear bm71
 refine jn (jbn ?_)
 have hst:m77=twoQ x m:=(by(try simp only[hm20,hm26,hm28,hm64,hm71,hm77] at hc1 hc2);(try simp only[hm20,hm26,hm28,hm64,hm71,hm77]);all_goals first|rfl|(simp[twoQ,two3,opQ,hc1,hc2];done)|(simp[twoQ,two3,opQ,hc1,hc2];rfl)|(unfold twoQ two3 opQ;(repeat' split)<;>first|rfl|(exfalso;omega)|(simp[hc1,hc2] at *;done)|(simp_all;done)))
 exact jd0 Z ua77 Z dn (fun _ _=>(kcb (by rw[←hst]) k0 (kcg (by rw[←hst]) k0 kn)))
 refine jq (jr (js (jeql Z Z) (ja Z (jn (jx ?_)))))
 refine jif Z (fun hc3=>?_) (fun hc3=>?_)
 refine jq (jq (jr (js (jf F163_0 Z) (js (jl k2 O3 Z Z) (js (jeql Z Z) (jn (jx ?_)))))))
 refine jif Z (fun hc4=>?_) (fun hc4=>?_)
 refine jq (jr (jm Z (jzr E146 Z Z (m7temp_ct om28 (by omega)) (dc d2 dn) (kd kn) ⟨tempQ_ok om28.1,om28.2⟩ fun m84 hm84 om84 bm84=>?_)))
 have w84_0:IntKind.i64.wrap (m28.nx)=m28.nx:=(IntWalk.i64_in _ (by omega))
 clear bm28
 refine ja Z (jn (jx (jq (jr (jm Z (jm Z (jzb E141 Z Z (m7word_ct om84 (by omega) m28.nx 0 w84_0 (by decide)) (dc d2 dn) (kd kn) ⟨wordQ_ok om84.1,(wordQ_s.trans om84.2)⟩ p0 fun m87 hm87 om87 bm87 ua87 w14=>?_)))))))
 clear bm84
 refine jn (jx (jq (jr (jm Z (js (jf F163_1 Z) (js (jl k2 O3 Z Z) (jm Z (jm Z (jm Z (js (jbu (v := .agg #[.int .i64 23,.int .i64 x.Dst,.int .i64 0,.int .i64 (copV (ix x.Args 0) m),.int .i64 (copV (ix x.Args 1) m20),.int .i64 m28.nx,.int .i32 0,.slice none 0 0]) Z (fun _=>by kernel_rfl)) (jzb E143 Z Z (m7put_ct (i:=⟨23,x.Dst,0,copV (ix x.Args 0) m,copV (ix x.Args 1) m20,m28.nx,0,[]⟩) om87 (by omega)) (dc d2 (dc (rMach.M (m:=⟨23,x.Dst,0,copV (ix x.Args 0) m,copV (ix x.Args 1) m20,m28.nx,0,[]⟩) (c:=(.slice none 0 0)) wN (wl 23) (rIns.W_Dst d3) (wl 0) ((wfw d1)) ((wfw d0)) (wp w84_0) (wl 0)) dn)) (kd kn) ⟨putQ_ok om87.1,(putQ_s.trans om87.2)⟩ p0 fun m95 hm95 om95 bm95 ua95 w15=>?_)))))))))))
 clear bm87
 refine jn (jx (jrt (jtr (jbr ?_))))
 have hst:m95=twoQ x m:=(by(try simp only[hm20,hm26,hm28,hm84,hm87,hm95] at hc1 hc2 hc3 hc4);(try simp only[hm20,hm26,hm28,hm84,hm87,hm95]);all_goals first|rfl|(simp[twoQ,two3,opQ,hc1,hc2,hc3,hc4];done)|(simp[twoQ,two3,opQ,hc1,hc2,hc3,hc4];rfl)|(unfold twoQ two3 opQ;(repeat' split)<;>first|rfl|(exfalso;omega)|(simp[hc1,hc2,hc3,hc4] at *;done)|(simp_all;done)))
 exact jr0 Z ua95 Z dn (fun _ _=>(kcb (by rw[←hst]) k0 (kcg (by rw[←hst]) k0 kn)))
 refine jsk (jx (jr (jm Z (jm Z (js (jf F163_1 Z) (js (jl k2 O3 Z Z) (jm Z (jm Z (js (jbu (v := .agg #[.int .i64 ((x.Op-2)+5),.int .i64 x.Dst,.int .i64 0,.int .i64 (copV (ix x.Args 0) m),.int .i64 (copV (ix x.Args 1) m20),.int .i64 0,.int .i32 0,.slice none 0 0]) Z (fun _=>by kernel_rfl)) (jzb E143 Z Z (m7put_ct (i:=⟨(x.Op-2)+5,x.Dst,0,copV (ix x.Args 0) m,copV (ix x.Args 1) m20,0,0,[]⟩) om28 (by omega)) (dc d2 (dc (rMach.M (m:=⟨(x.Op-2)+5,x.Dst,0,copV (ix x.Args 0) m,copV (ix x.Args 1) m20,0,0,[]⟩) (c:=(.slice none 0 0)) wN (wp (IntWalk.i64_in ((x.Op-2)+5) (by omega))) (rIns.W_Dst d3) (wl 0) ((wfw d1)) ((wfw d0)) (wl 0) (wl 0)) dn)) (kd kn) ⟨putQ_ok om28.1,(putQ_s.trans om28.2)⟩ p0 fun m103 hm103 om103 bm103 ua103 w16=>?_))))))))))
 clear bm28
 refine jn (jbn ?_)
 have hst:m103=twoQ x m:=(by(try simp only[hm20,hm26,hm28,hm103] at hc1 hc2 hc3 hc4);(try simp only[hm20,hm26,hm28,hm103]);all_goals first|rfl|(simp[twoQ,two3,opQ,hc1,hc2,hc3,hc4];done)|(simp[twoQ,two3,opQ,hc1,hc2,hc3,hc4];rfl)|(unfold twoQ two3 opQ;(repeat' split)<;>first|rfl|(exfalso;omega)|(simp[hc1,hc2,hc3,hc4] at *;done)|(simp_all;done)))
 exact jd0 Z ua103 Z dn (fun _ _=>(kcb (by rw[←hst]) k0 (kcg (by rw[←hst]) k0 kn)))
 refine jr (jm Z (jm Z (js (jf F163_1 Z) (js (jl k2 O3 Z Z) (jm Z (jm Z (js (jbu (v := .agg #[.int .i64 ((x.Op-2)+5),.int .i64 x.Dst,.int .i64 0,.int .i64 (copV (ix x.Args 0) m),.int .i64 (copV (ix x.Args 1) m20),.int .i64 0,.int .i32 0,.slice none 0 0]) Z (fun _=>by kernel_rfl)) (jzb E143 Z Z (m7put_ct (i:=⟨(x.Op-2)+5,x.Dst,0,copV (ix x.Args 0) m,copV (ix x.Args 1) m20,0,0,[]⟩) om28 (by omega)) (dc d2 (dc (rMach.M (m:=⟨(x.Op-2)+5,x.Dst,0,copV (ix x.Args 0) m,copV (ix x.Args 1) m20,0,0,[]⟩) (c:=(.slice none 0 0)) wN (wp (IntWalk.i64_in ((x.Op-2)+5) (by omega))) (rIns.W_Dst d3) (wl 0) ((wfw d1)) ((wfw d0)) (wl 0) (wl 0)) dn)) (kd kn) ⟨putQ_ok om28.1,(putQ_s.trans om28.2)⟩ p0 fun m36 hm36 om36 bm36 ua36 w17=>?_))))))))
 clear bm28
 refine jn (jbn ?_)
 have hst:m36=twoQ x m:=(by(try simp only[hm20,hm26,hm28,hm36] at hc1 hc2 hc3);(try simp only[hm20,hm26,hm28,hm36]);all_goals first|rfl|(simp[twoQ,two3,opQ,hc1,hc2,hc3];done)|(simp[twoQ,two3,opQ,hc1,hc2,hc3];rfl)|(unfold twoQ two3 opQ;(repeat' split)<;>first|rfl|(exfalso;omega)|(simp[hc1,hc2,hc3] at *;done)|(simp_all;done)))
 exact jd0 Z ua36 Z dn (fun _ _=>(kcb (by rw[←hst]) k0 (kcg (by rw[←hst]) k0 kn)))
set_option maxRecDepth 4000 in
theorem m7mem_ct{vs al:Value}{m:Mq}{nb c:Nat}{S:List Int}{g0:Nat}{B0:Nat}(hok:okSq nb c S m)(hc:c≤980000){a1:Value}{x:D.Ins}(hl1:1≤x.Args.length)(hl2:x.Op=15∨2≤x.Args.length):KBq Tryz.prog 142 [vIns x a1] [da rIns (vIns x a1) x] g0 vs al S B0 [] m (memQ x m) (.tuple #[]):=by
 refine jenter (args:=[.pointer (some ⟨g0,0,none⟩),vIns x a1]) Tryz.func142 rfl rfl rfl fun w0 X=>?_
 refine cgo k1 fun w1=>?_
 have bd0:=okQ.bnd hok.1
 refine jq (jr (jbox Z Z fun g3=>jn (jx (jq (jr (jm Z (js (jf F163_3 Z) (js (jl k0 O22 Z Z) (jdq (rIns.c_Args d1) fun q2 w2=>js (jix (i:=0) U22 Z3 (rIns.c_Args d1) Z Z Z (by omega)) ?_)))))))))
 refine js (jlI (dix (rIns.c_Args d1) 0 (by omega)) O3 Z) (jwr (wad (dix (rIns.c_Args d1) 0 (by omega))) fun w3=>jzb E147 Z Z (m7cop_ct hok (by omega) (ix x.Args 0) w3) (dc d0 dn) (kc k1 (kc k1 kn)) ⟨copQ_ok hok.1,(copQ_s.trans hok.2)⟩ p1 fun m11 hm11 om11 bm11 ua11 w4=>?_)
 clear bd0
 refine ja Z (jn (jx (jq (jq (jr (js (jf F163_4 Z) (js (jl k2 O21 Z Z) (js (jgeq Z Z) (jm Z (jg Z Z (.t _) (fun hg=>jf F163_4 Z) (jg Z Z (.t _) (fun hg=>jl k2 O21 (evg Z hg) Z) ?_)))))))))))
 refine jg Z Z (.t _) (fun hg=>jleq (evg Z hg) Z) (js (jand Z Z) (jm Z (jg Z Z (.t _) (fun hg=>jmv Z) (jzg Z Z (.t _) E145 Z (fun hg=>evl2 (evg Z hg) Z) (m7take_ct om11 (by omega) 3 (by first|decide|omega|assumption)) (dc d1 dn) (kd kn) (by split;exact⟨takeQ_ok om11.1,om11.2⟩;exact om11.mono (by omega)) fun m22 hm22 om22 bm22=>?_))))
 have w22_0:IntKind.i64.wrap (takeQV 3 m11)=takeQV 3 m11:=(IntWalk.i64_in _ (by have h9:=@takeQV_rng 3 (by omega) m11;omega))
 have tr22:=@takeQV_rng 3 (by omega) m11
 clear bm11
 refine jg Z Z (.t _) (fun hg=>jgtr (evg Z hg) Z) (js (jand Z Z) (jn (jx ?_)))
 refine jif Z (fun hc1=>?_) (fun hc1=>?_)
 refine jq (jq (jr (js (jf F163_0 Z) (js (jl k2 O3 Z Z) (js (jeql Z Z) (jn (jx ?_)))))))
 refine jif Z (fun hc2=>?_) (fun hc2=>?_)
 refine jq (jr (jm Z (js (jf F163_1 Z) (js (jl k2 O3 Z Z) (jm Z (js (jf F163_4 Z) (js (jl k2 O21 Z Z) (js (jbu (v := .agg #[.int .i64 24,.int .i64 x.Dst,.int .i64 0,.int .i64 (copV (ix x.Args 0) m),.int .i64 0,.int .i64 0,.int .i32 x.Imm,.slice none 0 0]) Z (fun _=>by kernel_rfl)) (jzb E143 Z Z (m7put_ct (i:=⟨24,x.Dst,0,copV (ix x.Args 0) m,0,0,x.Imm,[]⟩) om22 (by omega)) (dc d1 (dc (rMach.M (m:=⟨24,x.Dst,0,copV (ix x.Args 0) m,0,0,x.Imm,[]⟩) (c:=(.slice none 0 0)) wN (wl 24) (rIns.W_Dst d2) (wl 0) ((wfw d0)) (wl 0) (wl 0) (rIns.W_Imm d2)) dn)) (kd kn) ⟨putQ_ok om22.1,(putQ_s.trans om22.2)⟩ p0 fun m35 hm35 om35 bm35 ua35 w6=>?_)))))))))
 clear bm22
 refine jn (jx (jrt (jtr (jtr ?_))))
 have hst:m35=memQ x m:=(by(try simp only[hm11,hm22,hm35] at hc1 hc2);(try simp only[hm11,hm22,hm35]);unfold memQ mem2Q memQ0 byteQ;by_cases h1:0≤x.Imm<;>by_cases h2:x.Imm≤255<;>by_cases h3:0<takeQV 3 (copQ (ix x.Args 0) m)<;>by_cases h4:x.Op=15<;>simp[h1,h2,h3,h4] at hc1 hc2⊢<;> rfl)
 exact jr0 Z ua35 Z dn (fun _ _=>(kcb (by rw[←hst]) k0 (kcg (by rw[←hst]) k0 kn)))
 refine jsk (jx (jq (jtl 9 Mixed (by kernel_rfl) (jt (jmv Z) (jt (jmv Z) (jt (jf F163_3 Z) (jt (jl k2 O22 Z Z) (jt (jix (i:=1) U22 Z3 (rIns.c_Args d2) Z Z Z (by omega)) (jt (jlI (dix (rIns.c_Args d2) 1 (by omega)) O3 Z) (jt (jf F163_4 Z) (jt (jl k2 O21 Z Z) ?_)))))))))))
 refine jt (jbu (v := .agg #[.int .i64 26,.int .i64 0,.int .i64 0,.int .i64 (copV (ix x.Args 0) m),.int .i64 (ix x.Args 1),.int .i64 0,.int .i32 x.Imm,.slice none 0 0]) Z (fun _=>by kernel_rfl)) (jtt (jzb E143 Z Z (m7put_ct (i:=⟨26,0,0,copV (ix x.Args 0) m,ix x.Args 1,0,x.Imm,[]⟩) om22 (by omega)) (dc d1 (dc (rMach.M (m:=⟨26,0,0,copV (ix x.Args 0) m,ix x.Args 1,0,x.Imm,[]⟩) (c:=(.slice none 0 0)) wN (wl 26) (wl 0) (wl 0) ((wfw d0)) (wad (dix (rIns.c_Args d2) 1 (by omega))) (wl 0) (rIns.W_Imm d2)) dn)) (kd kn) ⟨putQ_ok om22.1,(putQ_s.trans om22.2)⟩ p0 fun m45 hm45 om45 bm45 ua45 w7=>?_))
 clear bm22
 refine jn (jx (jrt (jtr ?_)))
 have hst:m45=memQ x m:=(by(try simp only[hm11,hm22,hm45] at hc1 hc2);(try simp only[hm11,hm22,hm45]);unfold memQ mem2Q memQ0 byteQ;by_cases h1:0≤x.Imm<;>by_cases h2:x.Imm≤255<;>by_cases h3:0<takeQV 3 (copQ (ix x.Args 0) m)<;>by_cases h4:x.Op=15<;>simp[h1,h2,h3,h4] at hc1 hc2⊢<;> rfl)
 exact jr0 Z ua45 Z dn (fun _ _=>(kcb (by rw[←hst]) k0 (kcg (by rw[←hst]) k0 kn)))
 refine jsk (jx (jq (jr (jm Z (jzr E146 Z Z (m7temp_ct om22 (by omega)) (dc d1 dn) (kd kn) ⟨tempQ_ok om22.1,om22.2⟩ fun m47 hm47 om47 bm47=>?_)))))
 have w47_0:IntKind.i64.wrap (m22.nx)=m22.nx:=(IntWalk.i64_in _ (by omega))
 clear bm22
 refine ja Z (jn (jx (jq (jr (jm Z (jm Z (js (jf F163_4 Z) (js (jl k2 O21 Z Z) (jwr (rIns.W_Imm d2) fun w8=>jzb E141 Z Z (m7word_ct om47 (by omega) m22.nx x.Imm w47_0 w8) (dc d1 dn) (kd kn) ⟨wordQ_ok om47.1,(wordQ_s.trans om47.2)⟩ p0 fun m52 hm52 om52 bm52 ua52 w9=>?_)))))))))
 clear bm47
 refine jn (jx (jq (jq (jr (js (jf F163_0 Z) (js (jl k2 O3 Z Z) (js (jeql Z Z) (jn (jx ?_)))))))))
 refine jif Z (fun hc3=>?_) (fun hc3=>?_)
 refine jq (jr (jm Z (js (jf F163_1 Z) (js (jl k2 O3 Z Z) (jm Z (jm Z (js (jbu (v := .agg #[.int .i64 25,.int .i64 x.Dst,.int .i64 0,.int .i64 (copV (ix x.Args 0) m),.int .i64 m22.nx,.int .i64 0,.int .i32 0,.slice none 0 0]) Z (fun _=>by kernel_rfl)) (jzb E143 Z Z (m7put_ct (i:=⟨25,x.Dst,0,copV (ix x.Args 0) m,m22.nx,0,0,[]⟩) om52 (by omega)) (dc d1 (dc (rMach.M (m:=⟨25,x.Dst,0,copV (ix x.Args 0) m,m22.nx,0,0,[]⟩) (c:=(.slice none 0 0)) wN (wl 25) (rIns.W_Dst d2) (wl 0) ((wfw d0)) (wp w47_0) (wl 0) (wl 0)) dn)) (kd kn) ⟨putQ_ok om52.1,(putQ_s.trans om52.2)⟩ p0 fun m62 hm62 om62 bm62 ua62 w10=>?_))))))))
 clear bm52
 refine jn (jx (jrt (jtr ?_)))
 have hst:m62=memQ x m:=(by(try simp only[hm11,hm22,hm47,hm52,hm62] at hc1 hc3);(try simp only[hm11,hm22,hm47,hm52,hm62]);unfold memQ mem2Q memQ0 byteQ;by_cases h1:0≤x.Imm<;>by_cases h2:x.Imm≤255<;>by_cases h3:0<takeQV 3 (copQ (ix x.Args 0) m)<;>by_cases h4:x.Op=15<;>simp[h1,h2,h3,h4] at hc1 hc3⊢<;> rfl)
 exact jr0 Z ua62 Z dn (fun _ _=>(kcb (by rw[←hst]) k0 (kcg (by rw[←hst]) k0 kn)))
 refine jsk (jx (jr (jm Z (jm Z (jm Z (js (jf F163_3 Z) (js (jl k2 O22 Z Z) (js (jix (i:=1) U22 Z3 (rIns.c_Args d2) Z Z Z (by omega)) (js (jlI (dix (rIns.c_Args d2) 1 (by omega)) O3 Z) (js (jbu (v := .agg #[.int .i64 27,.int .i64 0,.int .i64 0,.int .i64 (copV (ix x.Args 0) m),.int .i64 m22.nx,.int .i64 (ix x.Args 1),.int .i32 0,.slice none 0 0]) Z (fun _=>by kernel_rfl)) (jzb E143 Z Z (m7put_ct (i:=⟨27,0,0,copV (ix x.Args 0) m,m22.nx,ix x.Args 1,0,[]⟩) om52 (by omega)) (dc d1 (dc (rMach.M (m:=⟨27,0,0,copV (ix x.Args 0) m,m22.nx,ix x.Args 1,0,[]⟩) (c:=(.slice none 0 0)) wN (wl 27) (wl 0) (wl 0) ((wfw d0)) (wp w47_0) (wad (dix (rIns.c_Args d2) 1 (by omega))) (wl 0)) dn)) (kd kn) ⟨putQ_ok om52.1,(putQ_s.trans om52.2)⟩ p0 fun m71 hm71 om71 bm71 ua71 w11=>?_)))))))))))
 clear bm52
 refine jn ?_
 have hst:m71=memQ x m:=(by(try simp only[hm11,hm22,hm47,hm52,hm71] at hc1 hc3);(try simp only[hm11,hm22,hm47,hm52,hm71]);unfold memQ mem2Q memQ0 byteQ;by_cases h1:0≤x.Imm<;>by_cases h2:x.Imm≤255<;>by_cases h3:0<takeQV 3 (copQ (ix x.Args 0) m)<;>by_cases h4:x.Op=15<;>simp[h1,h2,h3,h4] at hc1 hc3⊢<;> rfl)
 exact jd0 Z ua71 Z dn (fun _ _=>(kcb (by rw[←hst]) k0 (kcg (by rw[←hst]) k0 kn)))
theorem E142:Ent Tryz.prog 142:=⟨_,Tryz.func142,by kernel_rfl,by kernel_rfl⟩
theorem E144:Ent Tryz.prog 144:=⟨_,Tryz.func144,by kernel_rfl,by kernel_rfl⟩
set_option maxRecDepth 4000 in
theorem m7ins_ct{vs al:Value}{m:Mq}{nb c:Nat}{S:List Int}{g0:Nat}{B0:Nat}(hok:okSq nb c S m)(hc:c≤970000){a1:Value}{x:D.Ins}(hop:0≤x.Op∧x.Op≤1000)(hl9:x.Op=1∨x.Op=17∨(x.Op=15∧1≤x.Args.length)∨2≤x.Args.length):KBq Tryz.prog 95 [vIns x a1] [da rIns (vIns x a1) x] g0 vs al S B0 [] m (insQ x m) (.tuple #[]):=by
 refine jenter (args:=[.pointer (some ⟨g0,0,none⟩),vIns x a1]) Tryz.func95 rfl rfl rfl fun w0 X=>?_
 refine cgo k1 fun w1=>?_
 have bd0:=okQ.bnd hok.1
 refine jq (jr (jbox Z Z fun g3=>jn (jx (jq (jr (js (jf F163_0 Z) (js (jl k0 O3 Z Z) (jn (jx (jb ?_))))))))))
 refine jq (jr (js (jeql Z Z) (ja Z (jn (jx ?_)))))
 refine jif Z (fun hc1=>?_) (fun hc1=>?_)
 refine jr (jm Z (js (jf F163_1 Z) (js (jl k0 O3 Z Z) (js (jf F163_4 Z) (js (jl k0 O21 Z Z) (jwr (rIns.W_Dst d1) fun w2=>jwr (rIns.W_Imm d1) fun w3=>jzb E141 Z Z (m7word_ct hok (by omega) x.Dst x.Imm w2 w3) (dc d0 dn) (kc k1 (kc k1 kn)) ⟨wordQ_ok hok.1,(wordQ_s.trans hok.2)⟩ p0 fun m16 hm16 om16 bm16 ua16 w4=>?_))))))
 clear bd0
 refine jn (jbn ?_)
 have hst:m16=insQ x m:=(by(try simp only[hm16] at hc1);(try simp only[hm16]);all_goals first|rfl|(simp[insQ,hc1];done)|(simp[insQ,hc1];rfl)|(unfold insQ;(repeat' split)<;>first|rfl|(exfalso;omega)|(simp[hc1] at *;done)|(simp_all;done)))
 exact jd0 Z ua16 Z dn (fun _ _=>(kcb (by rw[←hst]) k0 (kcg (by rw[←hst]) k0 kn)))
 refine jq (jq (jr (js (jeql Z Z) (ja Z (jn (jx ?_))))))
 refine jif Z (fun hc2=>?_) (fun hc2=>?_)
 refine jsk (jx ?_)
 refine jif Z (fun hc3=>?_) (fun hc3=>?_)
 refine jr (jm Z (js (jla k0 A163 Z163 Z Z Z) (jzb E142 Z Z (m7mem_ct hok (by omega) (by first|decide|omega|assumption) (by first|decide|omega|assumption)) (dc d0 (dc d1 dn)) (kc k1 (kc k1 kn)) ⟨memQ_ok hok.1,(memQ_s.trans hok.2)⟩ p0 fun m22 hm22 om22 bm22 ua22 w5=>?_)))
 clear bd0
 refine jn (jbn ?_)
 have hst:m22=insQ x m:=(by(try simp only[hm22] at hc1 hc2 hc3);(try simp only[hm22]);all_goals first|rfl|(simp[insQ,hc1,hc2,hc3];done)|(simp[insQ,hc1,hc2,hc3];rfl)|(unfold insQ;(repeat' split)<;>first|rfl|(exfalso;omega)|(simp[hc1,hc2,hc3] at *;done)|(simp_all;done)))
 exact jd0 Z ua22 Z dn (fun _ _=>(kcb (by rw[←hst]) k0 (kcg (by rw[←hst]) k0 kn)))
 exact absurd hc3 (by simp[hc1,hc2])
 refine jr (js (jeql Z Z) (ja Z (jn (jx ?_))))
 refine jif Z (fun hc4=>?_) (fun hc4=>?_)
 refine jr (jm Z (js (jla k0 A163 Z163 Z Z Z) (jzb E142 Z Z (m7mem_ct hok (by omega) (by first|decide|omega|assumption) (by first|decide|omega|assumption)) (dc d0 (dc d1 dn)) (kc k1 (kc k1 kn)) ⟨memQ_ok hok.1,(memQ_s.trans hok.2)⟩ p0 fun m22 hm22 om22 bm22 ua22 w6=>?_)))
 clear bd0
 refine jn (jbn ?_)
 have hst:m22=insQ x m:=(by(try simp only[hm22] at hc1 hc2 hc4);(try simp only[hm22]);all_goals first|rfl|(simp[insQ,hc1,hc2,hc4];done)|(simp[insQ,hc1,hc2,hc4];rfl)|(unfold insQ;(repeat' split)<;>first|rfl|(exfalso;omega)|(simp[hc1,hc2,hc4] at *;done)|(simp_all;done)))
 exact jd0 Z ua22 Z dn (fun _ _=>(kcb (by rw[←hst]) k0 (kcg (by rw[←hst]) k0 kn)))
 refine jq (jr (js (jeql Z Z) (ja Z (jn (jx ?_)))))
 refine jif Z (fun hc5=>?_) (fun hc5=>?_)
 refine jany true (.a 0 (.a 1 (.a 2 (.a 3 (.a 4 (.a 6 (.a 7 (.o 5 (.o 8 (.a 9 (.o 10 .e))))))))))) Mixed (by kernel_rfl) (kc k0 kn) fun F7=>jy Z (jmv Z) (jy Z (jf F163_1 Z) (jy Z (jl k0 O3 Z Z) (jy Z (jf F163_4 Z) (jy Z (jl k0 O21 Z Z) (jy Z (jf F163_3 Z) (jy Z (jl k0 O22 Z Z) (jyo Z (jlit (r:=(rI .i64)) (l:=[]) U22 I3 (by decide) Z Z Z ln fun g30=>jyn d0 (kc k1 kn) (jyo Z ?_)))))))))
 refine jdq (rIns.c_Args d3) fun q10 w10=>japlz U22 I3 (by decide) Z k0 Z Z (rIns.c_Args d3) (by omega) fun v33 w11=>jyn d0 (kc k1 kn) (jy Z (jbu (v := .agg #[.int .i64 28,.int .i64 x.Dst,.int .i64 0,.int .i64 0,.int .i64 0,.int .i64 0,.int .i32 x.Imm,v33]) Z (fun _=>by obtain⟨_,_,_,rfl⟩:=w11;kernel_rfl)) (jyo Z (jfz k0 (by omega) (jzb E143 Z Z (m7put_ct (i:=⟨28,x.Dst,0,0,0,0,x.Imm,x.Args⟩) hok (by omega)) (dc d4 (dc (rMach.M (m:=⟨28,x.Dst,0,0,0,0,x.Imm,x.Args⟩) (c:=v33) d0 (wl 28) (rIns.W_Dst d5) (wl 0) (wl 0) (wl 0) (wl 0) (rIns.W_Imm d5)) dn)) (kc k1 (kc k1 kn)) ⟨putQ_ok hok.1,(putQ_s.trans hok.2)⟩ p0 fun m35 hm35 om35 bm35 ua35 w14=>?_))))
 clear bd0
 refine jyz d1 (jyd (jbn ?_))
 have hst:m35=insQ x m:=(by(try simp only[hm35] at hc1 hc2 hc4 hc5);(try simp only[hm35]);all_goals first|rfl|(simp[insQ,hc1,hc2,hc4,hc5];done)|(simp[insQ,hc1,hc2,hc4,hc5];rfl)|(unfold insQ;(repeat' split)<;>first|rfl|(exfalso;omega)|(simp[hc1,hc2,hc4,hc5] at *;done)|(simp_all;done)))
 exact jd0 Z ua35 Z dn (fun _ _=>(kcb (by rw[←hst]) k0 (kcg (by rw[←hst]) k0 kn)))
 refine jq (jr (js (jeql Z Z) (ja Z (jn (jx ?_)))))
 refine jif Z (fun hc6=>?_) (fun hc6=>?_)
 refine jtl 14 Mixed (by kernel_rfl) (jt (jmv Z) (jt (jf F163_1 Z) (jt (jl k0 O3 Z Z) (jt (jf F163_2 Z) (jt (jl k0 O3 Z Z) (jt (jf F163_3 Z) (jt (jl k0 O22 Z Z) (tdq (rIns.c_Args d1) fun q15 w15=>jt (jix (i:=0) U22 Z3 (rIns.c_Args d1) Z Z Z (by omega)) (jt (jlI (dix (rIns.c_Args d1) 0 (by omega)) O3 Z) (jt (jf F163_3 Z) ?_))))))))))
 refine jt (jl k0 O22 Z Z) (jt (jix (i:=1) U22 Z3 (rIns.c_Args d1) Z Z Z (by omega)) (jt (jlI (dix (rIns.c_Args d1) 1 (by omega)) O3 Z) (jt (jbu (v := .agg #[.int .i64 29,.int .i64 x.Dst,.int .i64 x.Two,.int .i64 (ix x.Args 0),.int .i64 (ix x.Args 1),.int .i64 0,.int .i32 0,.slice none 0 0]) Z (fun _=>by kernel_rfl)) (jtt (jzb E143 Z Z (m7put_ct (i:=⟨29,x.Dst,x.Two,ix x.Args 0,ix x.Args 1,0,0,[]⟩) hok (by omega)) (dc d0 (dc (rMach.M (m:=⟨29,x.Dst,x.Two,ix x.Args 0,ix x.Args 1,0,0,[]⟩) (c:=(.slice none 0 0)) wN (wl 29) (rIns.W_Dst d1) (rIns.W_Two d1) (wad (dix (rIns.c_Args d1) 0 (by omega))) (wad (dix (rIns.c_Args d1) 1 (by omega))) (wl 0) (wl 0)) dn)) (kc k1 (kc k1 kn)) ⟨putQ_ok hok.1,(putQ_s.trans hok.2)⟩ p0 fun m52 hm52 om52 bm52 ua52 w16=>?_)))))
 clear bd0
 refine jn (jbn ?_)
 have hst:m52=insQ x m:=(by(try simp only[hm52] at hc1 hc2 hc4 hc5 hc6);(try simp only[hm52]);all_goals first|rfl|(simp[insQ,hc1,hc2,hc4,hc5,hc6];done)|(simp[insQ,hc1,hc2,hc4,hc5,hc6];rfl)|(unfold insQ;(repeat' split)<;>first|rfl|(exfalso;omega)|(simp[hc1,hc2,hc4,hc5,hc6] at *;done)|(simp_all;done)))
 exact jd0 Z ua52 Z dn (fun _ _=>(kcb (by rw[←hst]) k0 (kcg (by rw[←hst]) k0 kn)))
 refine jr (jm Z (js (jla k0 A163 Z163 Z Z Z) (jzb E144 Z Z (m7two_ct hok (by omega) (by first|decide|omega|assumption) (by first|decide|omega|assumption)) (dc d0 (dc d1 dn)) (kc k1 (kc k1 kn)) ⟨twoQ_ok hok.1,(twoQ_s.trans hok.2)⟩ p0 fun m8 hm8 om8 bm8 ua8 w17=>?_)))
 clear bd0
 refine jn (jbn ?_)
 have hst:m8=insQ x m:=(by(try simp only[hm8] at hc1 hc2 hc4 hc5 hc6);(try simp only[hm8]);all_goals first|rfl|(simp[insQ,hc1,hc2,hc4,hc5,hc6];done)|(simp[insQ,hc1,hc2,hc4,hc5,hc6];rfl)|(unfold insQ;(repeat' split)<;>first|rfl|(exfalso;omega)|(simp[hc1,hc2,hc4,hc5,hc6] at *;done)|(simp_all;done)))
 exact jd0 Z ua8 Z dn (fun _ _=>(kcb (by rw[←hst]) k0 (kcg (by rw[←hst]) k0 kn)))
theorem J35:(Tryz.prog.info? 35).bind (·.zero)=some (.agg #[.int .i64 0,.int .i64 0,.int .i64 0,.slice none 0 0,.int .i32 0]):=by kernel_rfl
set_option maxRecDepth 4000 in
theorem m7end_ct{vs al:Value}{m:Mq}{nb c:Nat}{S:List Int}{g0:Nat}{B0:Nat}(hok:okSq nb c S m)(hc:c≤970000){a1a a1b:Value}{t:D.Term}(hT:(t.Kind≠2∨(1≤t.Args.length∧2≤t.To.length))∧(t.Kind≠3∨1≤t.Args.length)):KEq Tryz.prog 96 [vTerm t (a1a,a1b)] [da rTerm (vTerm t (a1a,a1b)) t] g0 vs al S B0 rEnd vEnd (endV t m) m (endQ t m):=by
 refine jenter (args:=[.pointer (some ⟨g0,0,none⟩),vTerm t (a1a,a1b)]) Tryz.func96 rfl rfl rfl fun w0 X=>?_
 refine cgo k1 fun w1=>?_
 have bd0:=okQ.bnd hok.1
 refine jq (jr (jbox Z Z fun g3=>jalc J35 Z fun g4=>jn (jx (jq ?_))))
 refine jjo (u2 fun(g9:Nat) (v9:Value)=>⟨IntKind.i32.wrap t.Imm=t.Imm∧t.To.length<1073741824,[dv (rL (rI .i64)) vs S,da rTerm (vTerm t (a1a,a1b)) t],[bx g9 35 [.int .i64 0,.int .i64 0,.int .i64 0,v9,.int .i32 t.Imm],gl X.n (rI .i64) 3 v9 t.To,bx g4 35 [.int .i64 0,.int .i64 0,.int .i64 0,.slice none 0 0,.int .i32 0],bx g3 158 [.int .i64 t.Kind,a1a,a1b,.int .i32 t.Imm],bx g0 155 [vs,.int .i64 m.k,.int .i64 m.nx,al],gl B0 rMach 69 al m.l],[(0,.pointer (some ⟨g0,0,none⟩)),(3,.pointer (some ⟨g3,0,none⟩)),(4,.pointer (some ⟨g4,0,none⟩)),(5,.pointer (some ⟨g9,0,none⟩))]⟩) ?_ ?_
 refine jany false (.a 1 (.a 2 (.a 4 (.a 5 (.w 0 7 (.w 3 7 (.a 6 (.o 7 (.o 8 .e))) (.o 3 (.a 6 (.o 8 .e)))) (.o 0 (.o 3 (.a 6 (.o 8 .e))))))))) Mixed (by kernel_rfl) (kc k1 kn) fun F3=>jy Z (jf F158_2 Z) (jy Z (jl k0 O22 Z Z) (jy Z (jf F158_3 Z) (jy Z (jl k0 O21 Z Z) ?_)))
 refine jyw Z Z ?_ ?_
 refine jlit (r:=(rI .i64)) (l:=[]) U22 I3 (by decide) Z Z Z ln fun g8=>jyn d0 (kc k2 kn) ?_
 refine jyw Z Z ?_ ?_
 refine jdq (rTerm.c_To d3) fun q6 w6=>japlz U22 I3 (by decide) Z k0 Z Z (rTerm.c_To d3) (by omega) fun v11 w7=>jyn d0 (kc k2 kn) (jy Z (jbu (v := .agg #[.int .i64 0,.int .i64 0,.int .i64 0,v11,.int .i32 t.Imm]) Z (fun _=>by obtain⟨_,_,_,rfl⟩:=w7;kernel_rfl)) (jyo Z (jalc J35 Z fun g5=>jyn d0 (kc k3 kn) (jyo Z (jsta k0 Z35 Z Z Z ⟨Z,Z,Z,w7.one,Z,trivial⟩ (saf Z) (jyn d0 (kc k3 kn) (jyd (qwr (rTerm.W_Imm d5) fun w10=>?_))))))))
 exact jje (g5,v11) ⟨w10,by omega⟩ (dc d4 (dc d5 dn)) (kd (kd (kd kn))) ⟨Z,Z,Z,Z,trivial⟩
 refine jalc J35 Z fun g5=>jyn d0 (kc k3 kn) (jyo Z (jdq (rTerm.c_To d4) fun q7 w7=>japlz U22 I3 (by decide) Z k1 Z Z (rTerm.c_To d4) (by omega) fun v11 w8=>jyn d0 (kc k3 kn) (jy Z (jbu (v := .agg #[.int .i64 0,.int .i64 0,.int .i64 0,v11,.int .i32 t.Imm]) Z (fun _=>by obtain⟨_,_,_,rfl⟩:=w8;kernel_rfl)) (jyo Z (jsta k1 Z35 Z Z Z ⟨Z,Z,Z,w8.one,Z,trivial⟩ (saf Z) (jyn d0 (kc k3 kn) (jyd (qwr (rTerm.W_Imm d5) fun w10=>?_))))))))
 exact jje (g5,v11) ⟨w10,by omega⟩ (dc d4 (dc d5 dn)) (kd (kd (kd kn))) ⟨Z,Z,Z,Z,trivial⟩
 refine jalc J35 Z fun g5=>jyn d0 (kc k2 kn) (jyo Z (jlit (r:=(rI .i64)) (l:=[]) U22 I3 (by decide) Z Z Z ln fun g8=>jyn d0 (kc k3 kn) (jyo Z (jdq (rTerm.c_To d4) fun q7 w7=>japlz U22 I3 (by decide) Z k0 Z Z (rTerm.c_To d4) (by omega) fun v11 w8=>jyn d0 (kc k3 kn) (jy Z (jbu (v := .agg #[.int .i64 0,.int .i64 0,.int .i64 0,v11,.int .i32 t.Imm]) Z (fun _=>by obtain⟨_,_,_,rfl⟩:=w8;kernel_rfl)) (jyo Z (jsta k1 Z35 Z Z Z ⟨Z,Z,Z,w8.one,Z,trivial⟩ (saf Z) ?_)))))))
 refine jyn d0 (kc k3 kn) (jyd (qwr (rTerm.W_Imm d5) fun w10=>?_))
 exact jje (g5,v11) ⟨w10,by omega⟩ (dc d4 (dc d5 dn)) (kd (kd (kd kn))) ⟨Z,Z,Z,Z,trivial⟩
 rintro⟨g9,v9⟩;dsimp only[u2];rintro⟨ww9,ln9⟩
 refine qgo k1 fun w11=>jx (jq (jq (jr (js (jf F158_0 Z) (js (jl k3 O3 Z Z) (jn (jx (jb (jq (jr ?_))))))))))
 refine js (jeql Z Z) (ja Z (jn (jx ?_)))
 refine jif Z (fun hc1=>?_) (fun hc1=>?_)
 refine jr (js (jf F35_0 Z) (jst k0 Z3 Z Z Z s0 (jn (jbn (jx (jq (jr (js (jla k0 A35 Z35 Z Z Z) (jsta k2 Z35 Z Z Z ⟨Z,Z,Z,w11.one,Z,trivial⟩ (saf Z) (jn (jx ?_)))))))))))
 refine jrt (qfz k2 (by omega) ?_)
 have hv0:endV t m=(⟨1,0,0,t.To,t.Imm⟩):=(by all_goals first|rfl|((first|unfold endV|unfold endQ);(repeat' split)<;>first|rfl|(exfalso;omega)|(simp_all;done)))
 have hst:m=endQ t m:=(by all_goals first|rfl|((first|unfold endV|unfold endQ);(repeat' split)<;>first|rfl|(exfalso;omega)|(simp_all;done)))
 exact jrc Z Z k0 A35 Z35 (al,v9) (by rw[hv0]<;>rfl) (dc (dacv vEnd hv0 (rEnd.M (m:=⟨1,0,0,t.To,t.Imm⟩) (c:=v9) d0 (wl 1) (wl 0) (wl 0) (wp ww9))) dn) (fun _ _=>(kcb (by rw[←hst]) k3 (kcg (by rw[←hst]) k3 kn)))
 refine jq (jr (js (jeql Z Z) (ja Z (jn (jx ?_)))))
 refine jif Z (fun hc2=>?_) (fun hc2=>?_)
 refine jq (jr (js (jf F35_0 Z) (jst k0 Z3 Z Z Z s0 (jn (jx (jq (jr (js (jf F158_1 Z) (js (jl k3 O22 Z Z) (jdq (rTerm.c_Args d1) fun q13 w13=>js (jix (i:=0) U22 Z3 (rTerm.c_Args d1) Z Z Z (by omega)) ?_))))))))))
 refine js (jlI (dix (rTerm.c_Args d1) 0 (by omega)) O3 Z) (js (jf F35_1 Z) (jst k0 Z3 Z Z Z s1 (jn (jx (jq (jr (jm Z (jzr E145 Z Z (m7take_ct hok (by omega) 4 (by first|decide|omega|assumption)) (dc d0 dn) (kc k4 (kc k4 kn)) ⟨takeQ_ok hok.1,hok.2⟩ fun m30 hm30 om30 bm30=>?_))))))))
 have w30_0:IntKind.i64.wrap (takeQV 4 m)=takeQV 4 m:=(IntWalk.i64_in _ (by have h9:=@takeQV_rng 4 (by omega) m;omega))
 have tr30:=@takeQV_rng 4 (by omega) m
 clear bd0
 refine ja Z (jn (jx (jq (jq (jr (jm Z (js (jgtr Z Z) (jn (jx ?_)))))))))
 refine jif Z (fun hc3=>?_) (fun hc3=>?_)
 refine jq (jr (js (jla k2 A35 Z35 Z Z Z) (jsta k4 Z35 Z Z Z ⟨Z,Z,Z,w11.one,Z,trivial⟩ (saf Z) (jn (jx (jrt (jtr (jbr (jtr (qfz k4 (by omega) ?_))))))))))
 have hv0:endV t m=(⟨2,ix t.Args 0,0,t.To,t.Imm⟩):=(by(try simp only[hm30] at hc1 hc2 hc3);(try simp only[hm30]);all_goals first|rfl|((first|unfold endV|unfold endQ);(repeat' split)<;>first|rfl|(exfalso;omega)|(simp_all;done)))
 have hst:m30=endQ t m:=(by(try simp only[hm30] at hc1 hc2 hc3);(try simp only[hm30]);all_goals first|rfl|((first|unfold endV|unfold endQ);(repeat' split)<;>first|rfl|(exfalso;omega)|(simp_all;done)))
 exact jrc Z Z k0 A35 Z35 (al,v9) (by rw[hv0]<;>rfl) (dc (dacv vEnd hv0 (rEnd.M (m:=⟨2,ix t.Args 0,0,t.To,t.Imm⟩) (c:=v9) d0 (wl 2) (wad (dix (rTerm.c_Args d2) 0 (by omega))) (wl 0) (wp ww9))) dn) (fun _ _=>(kcb (by rw[←hst]) k1 (kcg (by rw[←hst]) k1 kn)))
 refine jsk (jx (jq (jr (jm Z (jzr E146 Z Z (m7temp_ct om30 (by omega)) (dc d0 dn) (kd kn) ⟨tempQ_ok om30.1,om30.2⟩ fun m35 hm35 om35 bm35=>?_)))))
 have w35_0:IntKind.i64.wrap (m30.nx)=m30.nx:=(IntWalk.i64_in _ (by omega))
 clear bm30
 refine ja Z (jn (jx (jq (jr (jm Z (jm Z (jzb E141 Z Z (m7word_ct om35 (by omega) m30.nx 0 w35_0 (by decide)) (dc d0 dn) (kd kn) ⟨wordQ_ok om35.1,(wordQ_s.trans om35.2)⟩ p0 fun m38 hm38 om38 bm38 ua38 w15=>?_)))))))
 clear bm35
 refine jn (jx (jq (jr (js (jf F35_0 Z) (jst k2 Z3 Z Z Z s0 (jn (jx (jq (jr (jm Z (js (jf F35_1 Z) ?_)))))))))))
 refine jst k0 Z3 Z Z Z s1 (jn (jx (jq (jr (js (jf F158_1 Z) (js (jl k5 O22 Z Z) (js (jix (i:=0) U22 Z3 (rTerm.c_Args d1) Z Z Z (by omega)) (js (jlI (dix (rTerm.c_Args d1) 0 (by omega)) O3 Z) (js (jf F35_2 Z) (jst k0 Z3 Z Z Z s2 (jn ?_)))))))))))
 refine jx (jq (jr (jm Z (js (jeql Z Z) (jn (jx ?_))))))
 refine jif Z (fun hc4=>?_) (fun hc4=>?_)
 refine jq (jr (js (jf F35_0 Z) (jst k0 Z3 Z Z Z s0 (jn (jx (jany true (.a 0 (.a 1 (.a 2 (.a 3 (.a 4 (.a 5 (.a 6 (.a 7 (.o 8 (.a 9 (.o 10 .e))))))))))) Mixed (by kernel_rfl) (kc k5 kn) fun F16=>jy Z (jf F158_2 Z) (jy Z (jl k0 O22 Z Z) (adq (rTerm.c_To d1) fun q17 w17=>jy Z (jix (i:=1) U22 Z3 (rTerm.c_To d1) Z Z Z (by omega)) (jy Z (jlI (dix (rTerm.c_To d1) 1 (by omega)) O3 Z) ?_)))))))))
 refine jy Z (jf F158_2 Z) (jy Z (jl k0 O22 Z Z) (jy Z (jix (i:=0) U22 Z3 (rTerm.c_To d1) Z Z Z (by omega)) (jy Z (jlI (dix (rTerm.c_To d1) 0 (by omega)) O3 Z) (jyo Z (jlit (r:=(rI .i64)) (l:=[ix t.To 1,ix t.To 0]) U22 I3 (by decide) Z Z Z (lV Z Z (wI (wad (dix (rTerm.c_To d2) 1 (by omega)))) (lV Z Z (wI (wad (dix (rTerm.c_To d2) 0 (by omega)))) ln)) fun g58=>jyn d0 (kc k6 kn) (jy Z (jf F35_3 Z) (jyo Z (jst k1 Z22 Z Z Z s3 (jyz d0 (jyd ?_))))))))))
 refine jbn (jx (jq (jr (js (jla k0 A35 Z35 Z Z Z) (jsta k5 Z35 Z Z Z ⟨Z,Z,Z,Z,Z,trivial⟩ (saf Z) (jn (jx (jrt (qfz k2 (by(try simp)<;>omega) ?_)))))))))
 have hv0:endV t m=(⟨3,m30.nx,ix t.Args 0,[ix t.To 1,ix t.To 0],t.Imm⟩):=(by(try simp only[hm30,hm35,hm38] at hc1 hc2 hc3 hc4);(try simp only[hm30,hm35,hm38]);all_goals first|rfl|((first|unfold endV|unfold endQ);(repeat' split)<;>first|rfl|(exfalso;omega)|(simp_all;done)))
 have hst:m38=endQ t m:=(by(try simp only[hm30,hm35,hm38] at hc1 hc2 hc3 hc4);(try simp only[hm30,hm35,hm38]);all_goals first|rfl|((first|unfold endV|unfold endQ);(repeat' split)<;>first|rfl|(exfalso;omega)|(simp_all;done)))
 exact jrc Z Z k0 A35 Z35 (ua38,(.slice (some ⟨g58,0,none⟩) 2 2)) (by rw[hv0]<;>rfl) (dc (dacv vEnd hv0 (rEnd.M (m:=⟨3,m30.nx,ix t.Args 0,[ix t.To 1,ix t.To 0],t.Imm⟩) (c:=(.slice (some ⟨g58,0,none⟩) 2 2)) d0 (wl 3) (wp w35_0) (wad (dix (rTerm.c_Args d4) 0 (by omega))) (wp ww9))) dn) (fun _ _=>(kcb (by rw[←hst]) k2 (kcg (by rw[←hst]) k2 kn)))
 refine jsk (jbn (jx (jq (jr (js (jla k0 A35 Z35 Z Z Z) (jsta k4 Z35 Z Z Z ⟨Z,Z,Z,w11.one,Z,trivial⟩ (saf Z) (jn (jx (jrt (qfz k4 (by omega) ?_))))))))))
 have hv0:endV t m=(⟨5,m30.nx,ix t.Args 0,t.To,t.Imm⟩):=(by(try simp only[hm30,hm35,hm38] at hc1 hc2 hc3 hc4);(try simp only[hm30,hm35,hm38]);all_goals first|rfl|((first|unfold endV|unfold endQ);(repeat' split)<;>first|rfl|(exfalso;omega)|(simp_all;done)))
 have hst:m38=endQ t m:=(by(try simp only[hm30,hm35,hm38] at hc1 hc2 hc3 hc4);(try simp only[hm30,hm35,hm38]);all_goals first|rfl|((first|unfold endV|unfold endQ);(repeat' split)<;>first|rfl|(exfalso;omega)|(simp_all;done)))
 exact jrc Z Z k0 A35 Z35 (ua38,v9) (by rw[hv0]<;>rfl) (dc (dacv vEnd hv0 (rEnd.M (m:=⟨5,m30.nx,ix t.Args 0,t.To,t.Imm⟩) (c:=v9) d0 (wl 5) (wp w35_0) (wad (dix (rTerm.c_Args d2) 0 (by omega))) (wp ww9))) dn) (fun _ _=>(kcb (by rw[←hst]) k2 (kcg (by rw[←hst]) k2 kn)))
 refine jq (jr (js (jeql Z Z) (ja Z (jn (jx ?_)))))
 refine jif Z (fun hc5=>?_) (fun hc5=>?_)
 refine jq (jr (js (jf F35_0 Z) (jst k0 Z3 Z Z Z s0 (jn (jx (jr (js (jf F158_1 Z) (js (jl k3 O22 Z Z) (jdq (rTerm.c_Args d1) fun q22 w22=>js (jix (i:=0) U22 Z3 (rTerm.c_Args d1) Z Z Z (by omega)) (js (jlI (dix (rTerm.c_Args d1) 0 (by omega)) O3 Z) ?_))))))))))
 refine js (jf F35_1 Z) (jst k0 Z3 Z Z Z s1 (jn (jbn (jx (jq (jr (js (jla k0 A35 Z35 Z Z Z) (jsta k2 Z35 Z Z Z ⟨Z,Z,Z,w11.one,Z,trivial⟩ (saf Z) (jn (jx (jrt ?_)))))))))))
 refine qfz k2 (by omega) ?_
 have hv0:endV t m=(⟨6,ix t.Args 0,0,t.To,t.Imm⟩):=(by all_goals first|rfl|((first|unfold endV|unfold endQ);(repeat' split)<;>first|rfl|(exfalso;omega)|(simp_all;done)))
 have hst:m=endQ t m:=(by all_goals first|rfl|((first|unfold endV|unfold endQ);(repeat' split)<;>first|rfl|(exfalso;omega)|(simp_all;done)))
 exact jrc Z Z k0 A35 Z35 (al,v9) (by rw[hv0]<;>rfl) (dc (dacv vEnd hv0 (rEnd.M (m:=⟨6,ix t.Args 0,0,t.To,t.Imm⟩) (c:=v9) d0 (wl 6) (wad (dix (rTerm.c_Args d2) 0 (by omega))) (wl 0) (wp ww9))) dn) (fun _ _=>(kcb (by rw[←hst]) k3 (kcg (by rw[←hst]) k3 kn)))
 refine jq (jr (js (jeql Z Z) (ja Z (jn (jx ?_)))))
 refine jif Z (fun hc6=>?_) (fun hc6=>?_)
 refine jq (jr (js (jf F35_0 Z) (jst k0 Z3 Z Z Z s0 (jn (jx (jq (jr (js (jf F35_1 Z) (jst k0 Z3 Z Z Z s1 (jn (jx ?_)))))))))))
 refine jq (jr (js (jf F158_1 Z) (js (jl k3 O22 Z Z) (jdq (rTerm.c_Args d1) fun q24 w24=>js (jln U22 (rTerm.c_Args d1) Z) (js (jgtr Z Z) (jn (jx ?_)))))))
 refine jif Z (fun hc7=>?_) (fun hc7=>?_)
 refine jr (jm Z (js (jf F158_1 Z) (js (jl k3 O22 Z Z) (js (jix (i:=0) U22 Z3 (rTerm.c_Args d1) Z Z Z (by omega)) (js (jlI (dix (rTerm.c_Args d1) 0 (by omega)) O3 Z) (jwr (wad (dix (rTerm.c_Args d1) 0 (by omega))) fun w25=>jzb E147 Z Z (m7cop_ct hok (by omega) (ix t.Args 0) w25) (dc d0 dn) (kc k4 (kc k4 kn)) ⟨copQ_ok hok.1,(copQ_s.trans hok.2)⟩ p1 fun m81 hm81 om81 bm81 ua81 w26=>?_))))))
 clear bd0
 refine js (jf F35_1 Z) (jst k2 Z3 Z Z Z s1 (jn (jbn (jx (jq (jr (js (jla k0 A35 Z35 Z Z Z) (jsta k4 Z35 Z Z Z ⟨Z,Z,Z,w11.one,Z,trivial⟩ (saf Z) (jn (jx (jrt ?_)))))))))))
 refine qfz k4 (by omega) ?_
 have hv0:endV t m=(⟨7,copV (ix t.Args 0) m,0,t.To,t.Imm⟩):=(by(try simp only[hm81] at hc1 hc2 hc5 hc6 hc7);(try simp only[hm81]);all_goals first|rfl|((first|unfold endV|unfold endQ);(repeat' split)<;>first|rfl|(exfalso;omega)|(simp_all;done)))
 have hst:m81=endQ t m:=(by(try simp only[hm81] at hc1 hc2 hc5 hc6 hc7);(try simp only[hm81]);all_goals first|rfl|((first|unfold endV|unfold endQ);(repeat' split)<;>first|rfl|(exfalso;omega)|(simp_all;done)))
 exact jrc Z Z k0 A35 Z35 (ua81,v9) (by rw[hv0]<;>rfl) (dc (dacv vEnd hv0 (rEnd.M (m:=⟨7,copV (ix t.Args 0) m,0,t.To,t.Imm⟩) (c:=v9) d0 (wl 7) ((wfw d1)) (wl 0) (wp ww9))) dn) (fun _ _=>(kcb (by rw[←hst]) k2 (kcg (by rw[←hst]) k2 kn)))
 refine jsk (jbn (jx (jq (jr (js (jla k0 A35 Z35 Z Z Z) (jsta k2 Z35 Z Z Z ⟨Z,Z,Z,w11.one,Z,trivial⟩ (saf Z) (jn (jx (jrt (qfz k2 (by omega) ?_))))))))))
 have hv0:endV t m=(⟨7,(-1),0,t.To,t.Imm⟩):=(by all_goals first|rfl|((first|unfold endV|unfold endQ);(repeat' split)<;>first|rfl|(exfalso;omega)|(simp_all;done)))
 have hst:m=endQ t m:=(by all_goals first|rfl|((first|unfold endV|unfold endQ);(repeat' split)<;>first|rfl|(exfalso;omega)|(simp_all;done)))
 exact jrc Z Z k0 A35 Z35 (al,v9) (by rw[hv0]<;>rfl) (dc (dacv vEnd hv0 (rEnd.M (m:=⟨7,(-1),0,t.To,t.Imm⟩) (c:=v9) d0 (wl 7) (wl (-1)) (wl 0) (wp ww9))) dn) (fun _ _=>(kcb (by rw[←hst]) k3 (kcg (by rw[←hst]) k3 kn)))
 refine jr (js (jf F35_0 Z) (jst k0 Z3 Z Z Z s0 (jn (jbn (jx (jq (jr (js (jla k0 A35 Z35 Z Z Z) (jsta k2 Z35 Z Z Z ⟨Z,Z,Z,w11.one,Z,trivial⟩ (saf Z) (jn (jx ?_)))))))))))
 refine jrt (qfz k2 (by omega) ?_)
 have hv0:endV t m=(⟨8,0,0,t.To,t.Imm⟩):=(by all_goals first|rfl|((first|unfold endV|unfold endQ);(repeat' split)<;>first|rfl|(exfalso;omega)|(simp_all;done)))
 have hst:m=endQ t m:=(by all_goals first|rfl|((first|unfold endV|unfold endQ);(repeat' split)<;>first|rfl|(exfalso;omega)|(simp_all;done)))
 exact jrc Z Z k0 A35 Z35 (al,v9) (by rw[hv0]<;>rfl) (dc (dacv vEnd hv0 (rEnd.M (m:=⟨8,0,0,t.To,t.Imm⟩) (c:=v9) d0 (wl 8) (wl 0) (wl 0) (wp ww9))) dn) (fun _ _=>(kcb (by rw[←hst]) k3 (kcg (by rw[←hst]) k3 kn)))
abbrev U168:=@Tryz.underlying168
theorem E102:Ent Tryz.prog 102:=⟨_,Tryz.func102,by kernel_rfl,by kernel_rfl⟩
theorem E103:Ent Tryz.prog 103:=⟨_,Tryz.func103,by kernel_rfl,by kernel_rfl⟩
theorem E104:Ent Tryz.prog 104:=⟨_,Tryz.func104,by kernel_rfl,by kernel_rfl⟩
theorem E97:Ent Tryz.prog 97:=⟨_,Tryz.func97,by kernel_rfl,by kernel_rfl⟩
theorem E98:Ent Tryz.prog 98:=⟨_,Tryz.func98,by kernel_rfl,by kernel_rfl⟩
theorem I160:(Tryz.prog.info? 160).map (fun i=>(i.zero,i.size,i.bytes))=some (some (.agg #[.slice none 0 0,.slice none 0 0,.int .i64 0,.slice none 0 0,.slice none 0 0,.int .i32 0]),6,112):=by kernel_rfl
theorem I62:(Tryz.prog.info? 62).map (fun i=>(i.zero,i.size,i.bytes))=some (some (.agg #[.int .i64 0,.slice none 0 0]),2,32):=by kernel_rfl
theorem I64:(Tryz.prog.info? 64).map (fun i=>(i.zero,i.size,i.bytes))=some (some (.agg #[.int .i64 0,.int .i64 0]),2,16):=by kernel_rfl
theorem I93:(Tryz.prog.info? 93).map (fun i=>(i.zero,i.size,i.bytes))=some (some (.slice none 0 0),1,24):=by kernel_rfl
theorem O93:One Tryz.prog 93:=⟨_,Tryz.underlying93,rfl⟩
theorem Z102:Sz Tryz.prog 102 1:=by unfold Sz;kernel_rfl
theorem Z32:Sz Tryz.prog 32 1:=by unfold Sz;kernel_rfl
theorem Z60:Sz Tryz.prog 60 1:=by unfold Sz;kernel_rfl
theorem Z93:Sz Tryz.prog 93 1:=by unfold Sz;kernel_rfl
theorem J104:(Tryz.prog.info? 104).bind (·.zero)=some (.agg #[.int .i64 0,.slice none 0 0]):=by kernel_rfl
set_option maxRecDepth 8000 in
set_option maxHeartbeats 2000000 in
theorem r3made_ct{a0:Value}{s:List Int}:Ts Tryz.prog 66 #[a0] [dv (rL (rI .i64)) a0 s] [] rFunc vFunc (made3 s):=by
 refine jenter (args:=[a0]) Tryz.func66 rfl rfl rfl fun w0 X=>?_
 refine jq (jr (jalc J104 Z fun g2=>jn (jx (jq (jr (jm Z (jdq d0 fun q1 w1=>js (jbu (v := .agg #[a0,.int .i64 0,.int .i64 0,.slice none 0 0,.int .i64 0,.slice none 0 0]) Z (fun _=>by obtain⟨_,_,_,rfl⟩:=w1;kernel_rfl)) (jbox Z Z fun g33=>jnl (r:=(rI .i64)) (E:=3) ?_))))))))
 refine jbnil (jkn (c:=0) ⟨s,0,0,[],0,[]⟩ (kc k2 (kc k1 (kc k0 kn))) ⟨okM0 _,Z⟩ fun mm0 hmm0 omm0 bmm0=>lbk k2 (okM.bnd omm0.1).2.2.2.2.2.2.2.1 fun hvb=>ja Z (jn (jx (jq (jr (jm Z (jm Z (jkr E54 Z Z (m3take_ct omm0 (by omega) 5 (by first|decide|omega|(dsimp only;omega)|(simp only[fnM];omega))) (dc d0 dn) (kd (kc k0 kn)) ⟨tO9 omm0.1,omm0.2⟩ fun m36 hm36 om36 bm36=>?_))))))))
 have w36_0:IntKind.i64.wrap (tVV 5 mm0)=tVV 5 mm0:=(IntWalk.i64_in _ (by have h9:=@tV9 5 (by omega) mm0;omega))
 have tr36:=@tV9 5 (by omega) mm0
 clear bmm0
 refine js (jnil Z) (js (jf F106_2 Z) (js (jf F104_0 Z) (jst k0 Z3 Z Z Z s2 (jkn (c:=1) ({ m36 with par:=tVV 5 mm0 }) (kd (kc k0 kn)) ⟨(okM.setpar om36.1 (by omega) (Nat.le_refl _)),om36.2⟩ fun ms2 hms2 oms2 bms2=>?_))))
 clear bm36
 refine jn (jx (jq (jr (jm Z (jm Z (js (jnil Z) (js (jf F106_2 Z) (js (jf F104_0 Z) (js (jl k0 O3 Z Z) (js (jnil Z) (js (jf F106_3 Z) ?_)))))))))))
 refine jst k0 Z3 Z Z Z s4 (jkn (c:=10) ({ ms2 with nx:=ms2.par }) (kd (kc k0 kn)) ⟨(okM.setnx oms2.1 (by omega) (by omega)),oms2.2⟩ fun ms3 hms3 oms3 bms3=>?_)
 clear bms2
 refine jn (jx (jq (jr (jm Z (jkr E54 Z Z (m3take_ct oms3 (by omega) 9 (by first|decide|omega|(dsimp only;omega)|(simp only[fnM];omega))) (dc d0 dn) (kd (kc k0 kn)) ⟨tO9 oms3.1,oms3.2⟩ fun m49 hm49 om49 bm49=>?_)))))
 have w49_0:IntKind.i64.wrap (tVV 9 ms3)=tVV 9 ms3:=(IntWalk.i64_in _ (by have h9:=@tV9 9 (by omega) ms3;omega))
 have tr49:=@tV9 9 (by omega) ms3
 clear bms3
 refine js (jadd Z Z (by omega)) ?_
 generalize hnn:1+(tVV 9 ms3)=nn at ⊢
 refine ja Z (jn (jx (jq (jr (jm Z (jm Z (jkd E97 Z Z (m3targ_ct om49 (by omega) nn (by first|decide|omega|(dsimp only;omega)|(simp only[fnM];omega))) (dc d0 dn) (kd (kc k0 kn)) ⟨targ_ok om49.1 (by omega),(targM_s.trans om49.2)⟩ (h1:=targM_lv) (h2:=targM_bs) fun m53 hm53 om53 bm53 v53 q4 w4=>?_)))))))
 clear bm49
 have htl:=targM_len nn m49
 refine ja Z (jn (jx (jq (jr (jm Z (jm Z (jbmk (m:=(Int.toNat nn)) U102 I160 Z Z Z (by omega) (by omega) (by omega) fun g56=>js (jnil Z) (js (jf F106_2 Z) (js (jf F104_1 Z) (jst k1 Z102 Z Z Z s3 ?_))))))))))
 refine jkn (c:=100) ({ m53 with bs:=List.replicate (Int.toNat nn) default }) (kc k0 (kc k1 (kc k0 kn))) ⟨(okM.mono (okM.setbs om53.1) (by omega)),om53.2⟩ fun ms6 hms6 oms6 bms6=>?_
 clear bm53
 refine lbk k2 (okM.bnd oms6.1).2.2.2.2.2.2.2.1 fun hvb7=>jn (jx (jq (jq (jr (ja Z (jn (jx (jb ?_))))))))
 refine jlp (u4 fun(b1:Nat) (mq:Mk) (al1:Value) (qs1:List BV)=>⟨b1≤(Int.toNat (nn))∧pl mq=pl ms6∧toS ((targM nn m49).1) (Int.toNat (nn)) 0 ms6=toS ((targM nn m49).1) ((Int.toNat (nn))-b1) b1 mq∧okS (Int.toNat nn) (100) s mq,[dv (rL (rL (rI .i64))) v53 ((targM nn m49).1),dv (rL (rI .i64)) a0 s],[bx g33 106 [a0,.int .i64 mq.k,.int .i64 mq.par,(.slice (some ⟨g56,0,none⟩) (Int.toNat nn) (Int.toNat nn)),.int .i64 mq.nx,al1],gl X.n (rI .i64) 3 al1 mq.lv,bk X.n (.slice (some ⟨g56,0,none⟩) (Int.toNat nn) (Int.toNat nn)) qs1 mq.bs,bx g2 104 [.int .i64 0,.slice none 0 0]],[(2,.pointer (some ⟨g2,0,none⟩)),(3,.pointer (some ⟨g33,0,none⟩)),(4,.int .i64 nn),(5,v53),(6,.int .i64 (↑b1))],(Int.toNat (nn))-b1⟩) (0,ms6,(.slice none 0 0),List.replicate (Int.toNat nn) default) ⟨Nat.zero_le _,rfl,rfl,oms6.mono (by omega)⟩ (dc d0 (dc d1 dn)) (kd (kc k0 (kc k1 kn))) ⟨Z,Z,Z,Z,eqI (by omega),trivial⟩ ?_
 rintro⟨b1,mq,al1,qs1⟩;dsimp only[u4];rintro⟨hb1,hpq,hR1,okL1⟩
 refine cgo k1 fun w8=>?_
 have bdL1:=okM.bnd okL1.1
 clear bms6
 refine jq (jq (jr (jm Z (jm Z (js (jlss Z Z) (jn (jx ?_)))))))
 refine jif Z (fun hc1=>?_) (fun hc1=>?_)
 refine jsk (jx (jq (jb (jtl 13 Mixed (by kernel_rfl) (jt (jmv Z) (jt (jnil Z) (jt (jf F106_2 Z) (jt (jf F104_1 Z) (jt (jl k0 O102 Z Z) (jt (jmv Z) (jt (jmv Z) ?_)))))))))))
 refine jt (jmv Z) (jt (jix U52 Z22 d0 Z Z Z (by omega)) (jtv (jlV (dix d0 b1 (by omega)) O22 Z Z) fun v74 q9 w9=>jt (jbi' (j:=b1) U102 Z160 hvb7 Z Z Z (by omega)) (jt (jf F160_2 Z) (jt (jf F158_2 Z) (jtt (jbTo k2 (by omega) Z22 Z Z Z w9.one d0 (jkn (c:=100) ({ mq with bs:=List.set mq.bs b1 { (ix mq.bs b1) with Term:={ (ix mq.bs b1).Term with To:=ix ((targM nn m49).1) b1 } } }) (kc k1 (kc k1 (kc k0 kn))) ⟨(okM.setb (d:=0) okL1.1 (Nat.le_refl _)),okL1.2⟩ fun ms11 hms11 oms11 bms11=>?_)))))))
 clear bdL1
 refine jn (jbn (jx (jr (jm Z (js (jadd Z Z (by omega)) (ja Z (jn ?_)))))))
 exact jag (b1+1,ms11,al1,List.set qs1 b1 { (ix qs1 b1) with T:={ (ix mq.bs b1).Term with To:=ix ((targM nn m49).1) b1 } }) ⟨by dsimp only;omega,by dsimp only;rw[hms11];exact(pl_setTo (b:=b1) (m:=mq)).trans hpq,by dsimp only;rw[hR1,show(Int.toNat (nn))-b1=((Int.toNat (nn))-(b1+1))+1 by omega,toS];(try simp only[hms11]);rfl,oms11.mono (Nat.le_refl _)⟩ (dc d1 (dc d2 dn)) (kd (kd kn)) ⟨Z,Z,Z,Z,eqI (by omega),trivial⟩
 have hE1:toS ((targM nn m49).1) (Int.toNat (nn)) 0 ms6=mq:=by rw[hR1,show(Int.toNat (nn))-b1=0 by omega];rfl
 refine jex (jtx (jtx (jbh (jx (jq (jr (jm Z (jmk (m:=(Int.toNat nn)) (r:=(rI .i64)) U22 I3 Z Z Z (by omega) (by omega) (by omega) (wI (wp (by decide))) Z fun g79=>ja Z (jn (jx ?_))))))))))
 refine jq (jq (jr (ja Z (jn (jx (jb ?_))))))
 refine jlp (u5 fun(b2:Nat) (ph:List Int) (mr:Mk) (al2:Value) (qs2:List BV)=>⟨(1≤b2∧b2≤(Int.toNat (nn)))∧ph.length=(Int.toNat (nn))∧(∀j,0≤ix ph j∧ix ph j≤3)∧phiOK b2 ph mr∧phiS ((Int.toNat (nn))-1) 1 (List.replicate (Int.toNat nn) 0) mq=phiS ((Int.toNat (nn))-b2) b2 ph mr∧okS (Int.toNat nn) (100+7*b2) s mr,[dv (rL (rL (rI .i64))) v53 ((targM nn m49).1),dv (rL (rI .i64)) a0 s],[gl X.n (rI .i64) 3 (.slice (some ⟨g79,0,none⟩) (Int.toNat nn) (Int.toNat nn)) ph,bx g33 106 [a0,.int .i64 mr.k,.int .i64 mr.par,(.slice (some ⟨g56,0,none⟩) (Int.toNat nn) (Int.toNat nn)),.int .i64 mr.nx,al2],gl X.n (rI .i64) 3 al2 mr.lv,bk X.n (.slice (some ⟨g56,0,none⟩) (Int.toNat nn) (Int.toNat nn)) qs2 mr.bs,bx g2 104 [.int .i64 0,.slice none 0 0]],[(2,.pointer (some ⟨g2,0,none⟩)),(3,.pointer (some ⟨g33,0,none⟩)),(4,.int .i64 nn),(5,v53),(7,(.slice (some ⟨g79,0,none⟩) (Int.toNat nn) (Int.toNat nn))),(8,.int .i64 (↑b2))],(Int.toNat (nn))-b2⟩) (1,List.replicate (Int.toNat nn) 0,mq,al1,qs1) ⟨by omega,by simp,rng_rep,phi_start hpq (by rw[hms6]),rfl,okL1.mono (by omega)⟩ (dc d0 (dc d1 dn)) (kd (kd (kc k0 kn))) ⟨Z,Z,Z,Z,Z,eqI (by omega),trivial⟩ ?_
 rintro⟨b2,ph,mr,al2,qs2⟩;dsimp only[u5];rintro⟨hb2,hpl2,hph,hOK2,hR2,okL2⟩
 refine cgo k2 fun w12=>?_
 have bdL2:=okM.bnd okL2.1
 clear bdL1
 have hmrl:=okL2.1.2.2.2.2.1
 refine jq (jq (jr (jm Z (jm Z (js (jlss Z Z) (jn (jx ?_)))))))
 refine jif Z (fun hc2=>?_) (fun hc2=>?_)
 refine jsk (jx (jq (jb (jq (jr (jm Z (js (jnil Z) (js (jf F106_2 Z) (js (jla k1 A104 Z104 Z Z Z) (jm Z (jc E98 Z Z (Tg_bt (Tr.dd (r3preds_ct (f:=fnM mr) ↑b2) (fn_dd (IntWalk.i64_in _ (by show _≤mr.par∧mr.par≤_;omega)))) (okL2.lens (by omega) (by omega))) dn (kc k3 kn) (fun _=>p0) (fun _=>p2) fun v90=>jgo k0 fun w13=>?_)))))))))))
 refine ja Z (jn (jx (jq (jq (jr (jm Z (js (jlg U22 k0 Z) (js (jgtr Z Z) (jn (jx ?_))))))))))
 refine jjo (u4 fun(qh:List Int) (mz:Mk) (alj14:Value) (qsj14:List BV)=>⟨qh=phiR b2 ph mr∧mz=tSS mr∧okS (Int.toNat nn) (100+7*b2+1) s mz,[dv (rL (rL (rI .i64))) v53 ((targM nn m49).1),dv (rL (rI .i64)) a0 s],[bk X.n (.slice (some ⟨g56,0,none⟩) (Int.toNat nn) (Int.toNat nn)) qsj14 mz.bs,gl X.n (rI .i64) 3 (.slice (some ⟨g79,0,none⟩) (Int.toNat nn) (Int.toNat nn)) qh,bx g33 106 [a0,.int .i64 mz.k,.int .i64 mz.par,(.slice (some ⟨g56,0,none⟩) (Int.toNat nn) (Int.toNat nn)),.int .i64 mz.nx,alj14],gl X.n (rI .i64) 3 alj14 mz.lv,bx g2 104 [.int .i64 0,.slice none 0 0]],[(2,.pointer (some ⟨g2,0,none⟩)),(3,.pointer (some ⟨g33,0,none⟩)),(4,.int .i64 nn),(5,v53),(7,(.slice (some ⟨g79,0,none⟩) (Int.toNat nn) (Int.toNat nn))),(8,.int .i64 (((b2:Nat):Int)))]⟩) ?_ ?_
 refine jif Z (fun hc3=>?_) (fun hc3=>?_)
 refine jr (jm Z (jm Z (jm Z (jkr E54 Z Z (m3take_ct okL2 (by omega) 4 (by first|decide|omega|(dsimp only;omega)|(simp only[fnM];omega))) (dc d1 dn) (kc k3 (kc k3 (kc k1 kn))) ⟨tO9 okL2.1,okL2.2⟩ fun m97 hm97 om97 bm97=>?_))))
 have w97_0:IntKind.i64.wrap (tVV 4 mr)=tVV 4 mr:=(IntWalk.i64_in _ (by have h9:=@tV9 4 (by omega) mr;omega))
 have tr97:=@tV9 4 (by omega) mr
 clear bdL2
 refine js (jig U22 Z3 k4 Z Z Z (by omega)) (jsg k4 Z Z3 Z Z Z (by omega) (wI (wp w97_0)) (jn ?_))
 exact jje (List.set ph b2 (tVV 4 mr),m97,al2,qs2) ⟨by dsimp only;exact(show phiR b2 ph mr=List.set ph b2 (tVV 4 mr) from by unfold phiR;first|(rw[if_pos (show 1<(pd3 (fnM mr) (b2:Int)).length by omega)];done)|(rw[if_neg (show ¬1<(pd3 (fnM mr) (b2:Int)).length by omega),if_pos (show tVV 6 mr=0 by assumption)];done)|(rw[if_neg (show ¬1<(pd3 (fnM mr) (b2:Int)).length by omega),if_neg (show ¬tVV 6 mr=0 by assumption)];done)).symm,by dsimp only;exact hm97,om97.mono (Nat.le_refl _)⟩ (dc d0 (dc d1 dn)) (kc k3 (kd (kc k0 (kc k1 kn)))) ⟨Z,Z,Z,Z,Z,Z,trivial⟩
 refine jq (jr (jm Z (jkr E54 Z Z (m3take_ct okL2 (by omega) 6 (by first|decide|omega|(dsimp only;omega)|(simp only[fnM];omega))) (dc d1 dn) (kc k3 (kc k3 (kc k1 kn))) ⟨tO9 okL2.1,okL2.2⟩ fun m100 hm100 om100 bm100=>?_)))
 have w100_0:IntKind.i64.wrap (tVV 6 mr)=tVV 6 mr:=(IntWalk.i64_in _ (by have h9:=@tV9 6 (by omega) mr;omega))
 have tr100:=@tV9 6 (by omega) mr
 clear bdL2
 refine js (jeql Z Z) (jn (jx ?_))
 refine jif Z (fun hc4=>?_) (fun hc4=>?_)
 refine jr (jm Z (jm Z (js (jig U22 Z3 k4 Z Z Z (by omega)) (jsg k4 Z Z3 Z Z Z (by omega) (wI (wl 1)) (jn ?_)))))
 exact jje (List.set ph b2 1,m100,al2,qs2) ⟨by dsimp only;exact(show phiR b2 ph mr=List.set ph b2 1 from by unfold phiR;first|(rw[if_pos (show 1<(pd3 (fnM mr) (b2:Int)).length by omega)];done)|(rw[if_neg (show ¬1<(pd3 (fnM mr) (b2:Int)).length by omega),if_pos (show tVV 6 mr=0 by assumption)];done)|(rw[if_neg (show ¬1<(pd3 (fnM mr) (b2:Int)).length by omega),if_neg (show ¬tVV 6 mr=0 by assumption)];done)).symm,by dsimp only;exact hm100,om100.mono (Nat.le_refl _)⟩ (dc d0 (dc d1 dn)) (kc k3 (kd (kc k0 (kc k1 kn)))) ⟨Z,Z,Z,Z,Z,Z,trivial⟩
 refine jsk ?_
 exact jje (ph,m100,al2,qs2) ⟨by dsimp only;exact(show phiR b2 ph mr=ph from by unfold phiR;first|(rw[if_pos (show 1<(pd3 (fnM mr) (b2:Int)).length by omega)];done)|(rw[if_neg (show ¬1<(pd3 (fnM mr) (b2:Int)).length by omega),if_pos (show tVV 6 mr=0 by assumption)];done)|(rw[if_neg (show ¬1<(pd3 (fnM mr) (b2:Int)).length by omega),if_neg (show ¬tVV 6 mr=0 by assumption)];done)).symm,by dsimp only;exact hm100,om100.mono (Nat.le_refl _)⟩ (dc d0 (dc d1 dn)) (kc k2 (kc k3 (kd (kc k1 kn)))) ⟨Z,Z,Z,Z,Z,Z,trivial⟩
 rintro⟨qh,mz,alj14,qsj14⟩;dsimp only[u4];rintro⟨hqh,hmz9,okLj14⟩
 refine qgo k3 fun w15=>?_
 have bdLj14:=okM.bnd okLj14.1
 clear bdL2
 have hql:qh.length=ph.length:=by rw[hqh,phiR_len]
 have hp3:∀j,0≤ix qh j∧ix qh j≤3:=by rw[hqh];exact phiR_rng hph
 have hp3b:=hp3 b2
 have hPR:=hqh.symm
 refine jx (jq (jr (ja Z (jn (jx (jb ?_))))))
 refine jlp (u4 fun(i3:Nat) (mt:Mk) (al3:Value) (qs3:List BV)=>⟨i3≤(Int.toNat (ix qh b2))∧phiN b2 (Int.toNat (ix qh b2)) mz=phiN b2 ((Int.toNat (ix qh b2))-i3) mt∧okS (Int.toNat nn) (100+7*b2+1+2*i3) s mt,[dv (rL (rL (rI .i64))) v53 ((targM nn m49).1),dv (rL (rI .i64)) a0 s],[bk X.n (.slice (some ⟨g56,0,none⟩) (Int.toNat nn) (Int.toNat nn)) qs3 mt.bs,gl X.n (rI .i64) 3 (.slice (some ⟨g79,0,none⟩) (Int.toNat nn) (Int.toNat nn)) qh,bx g33 106 [a0,.int .i64 mt.k,.int .i64 mt.par,(.slice (some ⟨g56,0,none⟩) (Int.toNat nn) (Int.toNat nn)),.int .i64 mt.nx,al3],gl X.n (rI .i64) 3 al3 mt.lv,bx g2 104 [.int .i64 0,.slice none 0 0]],[(2,.pointer (some ⟨g2,0,none⟩)),(3,.pointer (some ⟨g33,0,none⟩)),(4,.int .i64 nn),(5,v53),(7,(.slice (some ⟨g79,0,none⟩) (Int.toNat nn) (Int.toNat nn))),(8,.int .i64 (↑b2)),(10,.int .i64 (↑i3))],(Int.toNat (ix qh b2))-i3⟩) (0,mz,alj14,qsj14) ⟨Nat.zero_le _,rfl,okLj14.mono (by omega)⟩ (dc d0 (dc d1 dn)) (kd (kd (kc k0 kn))) ⟨Z,Z,Z,Z,Z,Z,eqI (by omega),trivial⟩ ?_
 rintro⟨i3,mt,al3,qs3⟩;dsimp only[u4];rintro⟨hi3,hR3,okL3⟩
 refine cgo k3 fun w16=>?_
 have bdL3:=okM.bnd okL3.1
 clear bdLj14
 refine jq (jq (jr (jm Z (jm Z (jm Z (js (jig U22 Z3 k1 Z Z Z (by omega)) (js (jgI k1 (by omega) O3 Z) (js (jlss Z Z) (jn (jx ?_))))))))))
 refine jif Z (fun hc5=>?_) (fun hc5=>?_)
 refine jsk (jx (jq (jb ?_)))
 refine jjo (u3 fun(my9:Mk) (alj17:Value) (qsj17:List BV)=>⟨my9=addP b2 mt∧okS (Int.toNat nn) (100+7*b2+1+2*i3+2) s my9,[dv (rL (rL (rI .i64))) v53 ((targM nn m49).1),dv (rL (rI .i64)) a0 s],[bk X.n (.slice (some ⟨g56,0,none⟩) (Int.toNat nn) (Int.toNat nn)) qsj17 my9.bs,gl X.n (rI .i64) 3 (.slice (some ⟨g79,0,none⟩) (Int.toNat nn) (Int.toNat nn)) qh,bx g33 106 [a0,.int .i64 my9.k,.int .i64 my9.par,(.slice (some ⟨g56,0,none⟩) (Int.toNat nn) (Int.toNat nn)),.int .i64 my9.nx,alj17],gl X.n (rI .i64) 3 alj17 my9.lv,bx g2 104 [.int .i64 0,.slice none 0 0]],[(2,.pointer (some ⟨g2,0,none⟩)),(3,.pointer (some ⟨g33,0,none⟩)),(4,.int .i64 nn),(5,v53),(7,(.slice (some ⟨g79,0,none⟩) (Int.toNat nn) (Int.toNat nn))),(8,.int .i64 (((b2:Nat):Int))),(10,.int .i64 (((i3:Nat):Int)))]⟩) ?_ ?_
 refine jany true (.a 0 (.a 1 (.a 2 (.a 3 (.a 4 (.a 5 (.a 6 (.a 7 (.a 8 (.a 9 (.a 10 (.a 11 (.a 12 (.a 13 (.a 15 (.w 14 16 (.o 16 (.a 17 (.o 18 (.o 19 (.a 20 (.a 21 (.o 22 .e))))))) (.a 17 (.w 14 18 (.o 18 (.o 19 (.a 20 (.a 21 (.o 22 .e))))) (.o 14 (.o 19 (.a 20 (.a 21 (.o 22 .e))))))))))))))))))))))) Mixed (by kernel_rfl) (kcv k2 Z kn) fun F18=>jy Z (jmv Z) (jy Z (jnil Z) (jy Z (jf F106_2 Z) (jy Z (jf F104_1 Z) (jy Z (jlv k0 O102 Z) (jy Z (jmv Z) (jy Z (jmv Z) (jy Z (jnil Z) (jy Z (jf F106_2 Z) (jy Z (jf F104_1 Z) (jy Z (jlv k0 O102 Z) ?_))))))))))
 refine jy Z (jmv Z) (jy Z (jbi' (j:=b2) U102 Z160 hvb7 Z Z Z (by omega)) (jy Z (jf F160_0 Z) (jy Z (jmv Z) ?_)))
 refine jyw Z Z ?_ ?_
 refine js (jbh0 k0 (by omega) O32 Z Z) (jyn d0 (kcv k2 Z kn) (jyo Z (jkr E99 Z Z (m3fresh_ct okL3 (by omega)) (dc d3 dn) (kc k2 (kc k2 (kc k0 kn))) ⟨fresh_ok okL3.1,okL3.2⟩ fun m129 hm129 om129 bm129=>?_)))
 have w129_0:IntKind.i64.wrap (mt.nx)=mt.nx:=(IntWalk.i64_in _ (by omega))
 clear bdL3
 refine jyn d0 (kcv k0 Z kn) (jy Z (jbu (v := .agg #[.int .i64 mt.nx,.slice none 0 0]) Z (fun _=>by kernel_rfl)) (jyo Z (jlit (r:=rPhi) (l:=[⟨mt.nx,[]⟩]) U32 I62 (by decide) Z Z Z (lA (rPhi.M (m:=⟨mt.nx,[]⟩) (c:=(.slice none 0 0)) wN (wp w129_0)) ln) fun g131=>jyn d0 (kcv k1 Z kn) (jyo Z (jfz k0 (by(try simp)<;>omega) ?_)))))
 have hrF24:=okM.row om129.1 (j:=b2) (by omega)
 refine jbf0 b2 k2 (by omega) (jgo k0 fun w25=>japl U32 I62 (by decide) Z k0 Z Z d0 (by(try simp)<;>omega) fun v132 w26=>jyn d1 (kcv k2 Z kn) (jy Z (jbi' (j:=b2) U102 Z160 hvb7 Z Z Z (by omega)) (jy Z (jf F160_0 Z) (jyo Z (jbs0 k0 k0 (by omega) Z32 Z Z Z w26.one (jkn (c:=100+7*b2+1+2*i3+1+1) ({ m129 with bs:=List.set m129.bs b2 { (ix m129.bs b2) with Phis:=((ix m129.bs b2).Phis)++([⟨mt.nx,[]⟩]) } }) (kc k1 (kc k1 (kc k0 kn))) ⟨(okM.setb (d:=1) om129.1 (by dsimp only;rw[List.length_append];simp only[List.length_cons,List.length_nil];omega)),om129.2⟩ fun ms28 hms28 oms28 bms28=>?_))))))
 clear bm129
 refine jyz d0 (jyd ?_)
 exact jje (ms28,al3,List.set qs3 b2 { (ix qs3 b2) with P:=v132 }) ⟨by dsimp only;(try simp only[hm129,hms28]);rfl,oms28.mono (by omega)⟩ (dc d6 (dc d7 dn)) (kc k2 (kc k2 (kd (kc k0 kn)))) ⟨Z,Z,Z,Z,Z,Z,Z,trivial⟩
 refine jkr E99 Z Z (m3fresh_ct okL3 (by omega)) (dc d2 dn) (kc k2 (kc k2 (kc k0 kn))) ⟨fresh_ok okL3.1,okL3.2⟩ fun m129 hm129 om129 bm129=>?_
 have w129_0:IntKind.i64.wrap (mt.nx)=mt.nx:=(IntWalk.i64_in _ (by omega))
 clear bdL3
 refine jyn d0 (kcv k0 Z kn) (jy Z (jbu (v := .agg #[.int .i64 mt.nx,.slice none 0 0]) Z (fun _=>by kernel_rfl)) ?_)
 refine jyw Z Z ?_ ?_
 refine js (jbh0 k2 (by omega) O32 Z Z) (jyn d0 (kcv k0 Z kn) (jyo Z (jlit (r:=rPhi) (l:=[⟨mt.nx,[]⟩]) U32 I62 (by decide) Z Z Z (lA (rPhi.M (m:=⟨mt.nx,[]⟩) (c:=(.slice none 0 0)) wN (wp w129_0)) ln) fun g131=>jyn d0 (kcv k1 Z kn) (jyo Z (jfz k0 (by(try simp)<;>omega) ?_)))))
 have hrF24:=okM.row om129.1 (j:=b2) (by omega)
 refine jbf0 b2 k2 (by omega) (jgo k0 fun w25=>japl U32 I62 (by decide) Z k0 Z Z d0 (by(try simp)<;>omega) fun v132 w26=>jyn d1 (kcv k2 Z kn) (jy Z (jbi' (j:=b2) U102 Z160 hvb7 Z Z Z (by omega)) (jy Z (jf F160_0 Z) (jyo Z (jbs0 k0 k0 (by omega) Z32 Z Z Z w26.one (jkn (c:=100+7*b2+1+2*i3+1+1) ({ m129 with bs:=List.set m129.bs b2 { (ix m129.bs b2) with Phis:=((ix m129.bs b2).Phis)++([⟨mt.nx,[]⟩]) } }) (kc k1 (kc k1 (kc k0 kn))) ⟨(okM.setb (d:=1) om129.1 (by dsimp only;rw[List.length_append];simp only[List.length_cons,List.length_nil];omega)),om129.2⟩ fun ms28 hms28 oms28 bms28=>?_))))))
 clear bm129
 refine jyz d0 (jyd ?_)
 exact jje (ms28,al3,List.set qs3 b2 { (ix qs3 b2) with P:=v132 }) ⟨by dsimp only;(try simp only[hm129,hms28]);rfl,oms28.mono (by omega)⟩ (dc d6 (dc d7 dn)) (kc k2 (kc k2 (kd (kc k0 kn)))) ⟨Z,Z,Z,Z,Z,Z,Z,trivial⟩
 refine jlit (r:=rPhi) (l:=[⟨mt.nx,[]⟩]) U32 I62 (by decide) Z Z Z (lA (rPhi.M (m:=⟨mt.nx,[]⟩) (c:=(.slice none 0 0)) wN (wp w129_0)) ln) fun g131=>jyn d0 (kcv k1 Z kn) (jyo Z (js (jbh0 k3 (by omega) O32 Z Z) (jyn d0 (kcv k1 Z kn) (jyo Z (jfz k0 (by(try simp)<;>omega) ?_)))))
 have hrF24:=okM.row om129.1 (j:=b2) (by omega)
 refine jbf0 b2 k2 (by omega) (jgo k0 fun w25=>japl U32 I62 (by decide) Z k0 Z Z d0 (by(try simp)<;>omega) fun v132 w26=>jyn d1 (kcv k2 Z kn) (jy Z (jbi' (j:=b2) U102 Z160 hvb7 Z Z Z (by omega)) (jy Z (jf F160_0 Z) (jyo Z (jbs0 k0 k0 (by omega) Z32 Z Z Z w26.one (jkn (c:=100+7*b2+1+2*i3+1+1) ({ m129 with bs:=List.set m129.bs b2 { (ix m129.bs b2) with Phis:=((ix m129.bs b2).Phis)++([⟨mt.nx,[]⟩]) } }) (kc k1 (kc k1 (kc k0 kn))) ⟨(okM.setb (d:=1) om129.1 (by dsimp only;rw[List.length_append];simp only[List.length_cons,List.length_nil];omega)),om129.2⟩ fun ms28 hms28 oms28 bms28=>?_))))))
 clear bm129
 refine jyz d0 (jyd ?_)
 exact jje (ms28,al3,List.set qs3 b2 { (ix qs3 b2) with P:=v132 }) ⟨by dsimp only;(try simp only[hm129,hms28]);rfl,oms28.mono (by omega)⟩ (dc d6 (dc d7 dn)) (kc k2 (kc k2 (kd (kc k0 kn)))) ⟨Z,Z,Z,Z,Z,Z,Z,trivial⟩
 rintro⟨my9,alj17,qsj17⟩;dsimp only[u3];rintro⟨hmy9,okLj17⟩
 refine qgo k3 fun w29=>?_
 have bdLj17:=okM.bnd okLj17.1
 clear bdL3
 refine jbn (jx (jr (jm Z (js (jadd Z Z (by omega)) (ja Z (jn ?_))))))
 exact jag (i3+1,my9,alj17,qsj17) ⟨by dsimp only;omega,by dsimp only;rw[hmy9,hR3,show(Int.toNat (ix qh b2))-i3=((Int.toNat (ix qh b2))-(i3+1))+1 by omega,phiN],okLj17.mono (by omega)⟩ (dc d0 (dc d1 dn)) (kd (kd (kc k0 kn))) ⟨Z,Z,Z,Z,Z,Z,eqI (by omega),trivial⟩
 have hE3:phiN b2 (Int.toNat (ix qh b2)) mz=mt:=by rw[hR3,show(Int.toNat (ix qh b2))-i3=0 by omega];rfl
 refine jex (jtx (jtx (jbh (jbn (jx (jr (jm Z (js (jadd Z Z (by omega)) (ja Z (jn ?_))))))))))
 exact jag (b2+1,qh,mt,al3,qs3) ⟨by dsimp only;omega,by dsimp only;omega,hp3,by dsimp only;have h9:=phi_step hOK2 (by omega) (by omega) hPR.symm;rw[←hmz9,hE3] at h9;exact h9,by dsimp only;rw[hR2,show(Int.toNat (nn))-b2=((Int.toNat (nn))-(b2+1))+1 by omega,phiS,hPR,←hmz9,hE3],okL3.mono (by omega)⟩ (dc d0 (dc d1 dn)) (kc k1 (kc k1 (kc k1 (kd kn)))) ⟨Z,Z,Z,Z,Z,eqI (by omega),trivial⟩
 have hE2:phiS ((Int.toNat (nn))-1) 1 (List.replicate (Int.toNat (nn)) 0) mq=(ph,mr):=by rw[hR2,show(Int.toNat (nn))-b2=0 by omega];rfl
 refine jex (jtx (jtx (jbh (jx (jq (jr (jm Z (jmk (m:=(Int.toNat nn)) (r:=rB) U93 I4 Z Z Z (by omega) (by omega) (by omega) wB Z fun g136=>ja Z (jn (jx ?_))))))))))
 refine jq (jq (jr (ja Z (jn (jx (jb ?_))))))
 refine jlp (u5 fun(u:Nat) (dz:List Bool) (mu:Mk) (al4:Value) (qs4:List BV)=>⟨u≤(Int.toNat (nn))∧dz.length=(Int.toNat (nn))∧pl mu=pl mr∧turnS (Int.toNat (nn)) ((targM nn m49).1) (Int.toNat (nn)) (List.replicate (Int.toNat nn) false) mr=turnS (Int.toNat (nn)) ((targM nn m49).1) ((Int.toNat (nn))-u) dz mu∧okS (Int.toNat nn) (200+3690*u) s mu,[dv (rL (rL (rI .i64))) v53 ((targM nn m49).1),dv (rL (rI .i64)) a0 s],[gl X.n rB 4 (.slice (some ⟨g136,0,none⟩) (Int.toNat nn) (Int.toNat nn)) dz,gl X.n (rI .i64) 3 (.slice (some ⟨g79,0,none⟩) (Int.toNat nn) (Int.toNat nn)) ph,bx g33 106 [a0,.int .i64 mu.k,.int .i64 mu.par,(.slice (some ⟨g56,0,none⟩) (Int.toNat nn) (Int.toNat nn)),.int .i64 mu.nx,al4],gl X.n (rI .i64) 3 al4 mu.lv,bk X.n (.slice (some ⟨g56,0,none⟩) (Int.toNat nn) (Int.toNat nn)) qs4 mu.bs,bx g2 104 [.int .i64 0,.slice none 0 0]],[(2,.pointer (some ⟨g2,0,none⟩)),(3,.pointer (some ⟨g33,0,none⟩)),(4,.int .i64 nn),(5,v53),(7,(.slice (some ⟨g79,0,none⟩) (Int.toNat nn) (Int.toNat nn))),(11,(.slice (some ⟨g136,0,none⟩) (Int.toNat nn) (Int.toNat nn))),(12,.int .i64 (↑u))],(Int.toNat (nn))-u⟩) (0,List.replicate (Int.toNat nn) false,mr,al2,qs2) ⟨Nat.zero_le _,by simp,rfl,rfl,okL2.mono (by omega)⟩ (dc d0 (dc d1 dn)) (kd (kd (kd kn))) ⟨Z,Z,Z,Z,Z,Z,eqI (by omega),trivial⟩ ?_
 rintro⟨u,dz,mu,al4,qs4⟩;dsimp only[u5];rintro⟨hu,hdl,hpu,hR4,okL4⟩
 refine cgo k3 fun w30=>?_
 have bdL4:=okM.bnd okL4.1
 clear bdL2
 refine jq (jq (jr (jm Z (jm Z (js (jlss Z Z) (jn (jx ?_)))))))
 refine jif Z (fun hc6=>?_) (fun hc6=>?_)
 refine jsk (jx (jq (jb (jq (jr (ja Z (jn (jx (jb ?_)))))))))
 refine jlp (u5 fun(b5:Nat) (dn5:List Bool) (mv:Mk) (al5:Value) (qs5:List BV)=>⟨b5≤(Int.toNat (nn))∧dn5.length=(Int.toNat (nn))∧pl mv=pl mu∧rowS (Int.toNat (nn)) ((targM nn m49).1) (Int.toNat (nn)) 0 dz mu=rowS (Int.toNat (nn)) ((targM nn m49).1) ((Int.toNat (nn))-b5) b5 dn5 mv∧okS (Int.toNat nn) (200+3690*u+410*b5) s mv,[dv (rL (rL (rI .i64))) v53 ((targM nn m49).1),dv (rL (rI .i64)) a0 s],[gl X.n rB 4 (.slice (some ⟨g136,0,none⟩) (Int.toNat nn) (Int.toNat nn)) dn5,gl X.n (rI .i64) 3 (.slice (some ⟨g79,0,none⟩) (Int.toNat nn) (Int.toNat nn)) ph,bx g33 106 [a0,.int .i64 mv.k,.int .i64 mv.par,(.slice (some ⟨g56,0,none⟩) (Int.toNat nn) (Int.toNat nn)),.int .i64 mv.nx,al5],gl X.n (rI .i64) 3 al5 mv.lv,bk X.n (.slice (some ⟨g56,0,none⟩) (Int.toNat nn) (Int.toNat nn)) qs5 mv.bs,bx g2 104 [.int .i64 0,.slice none 0 0]],[(2,.pointer (some ⟨g2,0,none⟩)),(3,.pointer (some ⟨g33,0,none⟩)),(4,.int .i64 nn),(5,v53),(7,(.slice (some ⟨g79,0,none⟩) (Int.toNat nn) (Int.toNat nn))),(11,(.slice (some ⟨g136,0,none⟩) (Int.toNat nn) (Int.toNat nn))),(12,.int .i64 (↑u)),(13,.int .i64 (↑b5))],(Int.toNat (nn))-b5⟩) (0,dz,mu,al4,qs4) ⟨Nat.zero_le _,hdl,rfl,rfl,okL4.mono (by omega)⟩ (dc d0 (dc d1 dn)) (kd (kd (kd kn))) ⟨Z,Z,Z,Z,Z,Z,Z,eqI (by omega),trivial⟩ ?_
 rintro⟨b5,dn5,mv,al5,qs5⟩;dsimp only[u5];rintro⟨hb5,hdl5,hpv,hR5,okL5⟩
 refine cgo k3 fun w31=>?_
 have bdL5:=okM.bnd okL5.1
 clear bdL4
 have hmvl:=okL5.1.2.2.2.2.1
 have hmvb:=okM.bnd okL5.1
 refine jq (jq (jr (jm Z (jm Z (js (jlss Z Z) (jn (jx ?_)))))))
 refine jif Z (fun hc7=>?_) (fun hc7=>?_)
 refine jsk (jx (jq (jb (jq (jr (jm Z (jm Z (js (jig U93 Z4 k0 Z Z Z (by omega)) (js (jgB k0 (by omega) O4 Z) (js (jnot Z) (ja Z ?_)))))))))))
 refine jn (jx (jq (jr (jlit (r:=(rL rB)) (l:=[]) U168 I93 (by decide) Z Z Z ln fun g152=>ja Z (jn (jx (jq (jq (jr (ja Z ?_))))))))))
 refine jn (jx (jb ?_))
 refine jlp (u5 fun(a6:Nat) (va:Value) (aw:List (List Bool)) (al6:Value) (qs6:List BV)=>⟨a6≤(Int.toNat (nn))∧aw=awayL (fnM mv) a6∧okS (Int.toNat nn) (200+3690*u+410*b5) s mv,[dv (rL (rL (rI .i64))) v53 ((targM nn m49).1),dv (rL (rI .i64)) a0 s],[gl X.n (rL rB) 93 va aw,gl X.n rB 4 (.slice (some ⟨g136,0,none⟩) (Int.toNat nn) (Int.toNat nn)) dn5,gl X.n (rI .i64) 3 (.slice (some ⟨g79,0,none⟩) (Int.toNat nn) (Int.toNat nn)) ph,bx g33 106 [a0,.int .i64 mv.k,.int .i64 mv.par,(.slice (some ⟨g56,0,none⟩) (Int.toNat nn) (Int.toNat nn)),.int .i64 mv.nx,al6],gl X.n (rI .i64) 3 al6 mv.lv,bk X.n (.slice (some ⟨g56,0,none⟩) (Int.toNat nn) (Int.toNat nn)) qs6 mv.bs,bx g2 104 [.int .i64 0,.slice none 0 0]],[(2,.pointer (some ⟨g2,0,none⟩)),(3,.pointer (some ⟨g33,0,none⟩)),(4,.int .i64 nn),(5,v53),(7,(.slice (some ⟨g79,0,none⟩) (Int.toNat nn) (Int.toNat nn))),(11,(.slice (some ⟨g136,0,none⟩) (Int.toNat nn) (Int.toNat nn))),(12,.int .i64 (↑u)),(13,.int .i64 (↑b5)),(14,.bool (!(ix dn5 b5))),(15,va),(16,.int .i64 (↑a6))],(Int.toNat (nn))-a6⟩) (0,(.slice (some ⟨g152,0,none⟩) 0 0),[],al5,qs5) ⟨Nat.zero_le _,rfl,okL5.mono (Nat.le_refl _)⟩ (dc d0 (dc d1 dn)) (kd (kd (kd (kc k0 kn)))) ⟨Z,Z,Z,Z,Z,Z,Z,Z,Z,Z,eqI (by omega),trivial⟩ ?_
 rintro⟨a6,va,aw,al6,qs6⟩;dsimp only[u5];rintro⟨ha6,haw,okL6⟩
 refine cgo k0 fun w32=>cgo k4 fun w33=>?_
 have bdL6:=okM.bnd okL6.1
 clear bdL5
 have hawl:aw.length=a6:=by rw[haw,awayL_len]
 refine jq (jq (jr (jm Z (jm Z (js (jlss Z Z) (jn (jx ?_)))))))
 refine jif Z (fun hc8=>?_) (fun hc8=>?_)
 refine jsk (jx (jq (jb (jr (jm Z (jm Z (js (jnil Z) (js (jf F106_2 Z) (js (jla k3 A104 Z104 Z Z Z) (jm Z (jc E100 Z Z (Tg_btB (Tr.dd (r3reach_ct (f:=fnM mv) ↑a6) (fn_dd (IntWalk.i64_in _ (by show _≤mv.par∧mv.par≤_;omega)))) (okL6.lens (by omega) (by omega))) dn (kc k5 kn) (fun _=>p0) (fun _=>p2) fun v164=>jgo k0 fun w34=>?_)))))))))))
 have hrl6:(reach3 (fnM mv) (a6:Int)).length=mv.bs.length:=reach3_len _ _
 refine jfz k0 (by(try simp)<;>omega) (japv U168 I93 (by decide) Z Z k1 Z d0 (by omega) (fun _=>Z) fun v166 _ w36=>ja Z (jn (jbn (jx (jr (jm Z (js (jadd Z Z (by omega)) (ja Z (jn ?_)))))))))
 exact jag (a6+1,v166,aw++[reach3 (fnM mv) ((a6:Nat):Int)],al6,qs6) ⟨by dsimp only;omega,by dsimp only;rw[haw,awayL_s],okL6.mono (Nat.le_refl _)⟩ (dc d1 (dc d2 dn)) (kc k0 (kc k1 (kc k1 (kc k1 (kc k1 (kd kn)))))) ⟨Z,Z,Z,Z,Z,Z,Z,Z,Z,Z,eqI (by omega),trivial⟩
 refine jex (jtx (jtx (jbh (jx (jq (jq (jr (ja Z (jn (jx (jb ?_)))))))))))
 refine jlp (u4 fun(a7:Nat) (r7:Bool) (al7:Value) (qs7:List BV)=>⟨a7≤(Int.toNat (nn))∧r7=readyF (fnM mv) dn5 b5 a7∧okS (Int.toNat nn) (200+3690*u+410*b5) s mv,[dv (rL (rL (rI .i64))) v53 ((targM nn m49).1),dv (rL (rI .i64)) a0 s],[gl X.n (rL rB) 93 va aw,gl X.n rB 4 (.slice (some ⟨g136,0,none⟩) (Int.toNat nn) (Int.toNat nn)) dn5,gl X.n (rI .i64) 3 (.slice (some ⟨g79,0,none⟩) (Int.toNat nn) (Int.toNat nn)) ph,bx g33 106 [a0,.int .i64 mv.k,.int .i64 mv.par,(.slice (some ⟨g56,0,none⟩) (Int.toNat nn) (Int.toNat nn)),.int .i64 mv.nx,al7],gl X.n (rI .i64) 3 al7 mv.lv,bk X.n (.slice (some ⟨g56,0,none⟩) (Int.toNat nn) (Int.toNat nn)) qs7 mv.bs,bx g2 104 [.int .i64 0,.slice none 0 0]],[(2,.pointer (some ⟨g2,0,none⟩)),(3,.pointer (some ⟨g33,0,none⟩)),(4,.int .i64 nn),(5,v53),(7,(.slice (some ⟨g79,0,none⟩) (Int.toNat nn) (Int.toNat nn))),(11,(.slice (some ⟨g136,0,none⟩) (Int.toNat nn) (Int.toNat nn))),(12,.int .i64 (↑u)),(13,.int .i64 (↑b5)),(14,.bool r7),(15,va),(17,.int .i64 (↑a7))],(Int.toNat (nn))-a7⟩) (0,!(ix dn5 b5),al6,qs6) ⟨Nat.zero_le _,by simp[readyF],okL6.mono (Nat.le_refl _)⟩ (dc d0 (dc d1 dn)) (kd (kd (kd (kc k0 kn)))) ⟨Z,Z,Z,Z,Z,Z,Z,Z,Z,Z,eqI (by omega),trivial⟩ ?_
 rintro⟨a7,r7,al7,qs7⟩;dsimp only[u4];rintro⟨ha7,hr7,okL7⟩
 refine cgo k4 fun w37=>?_
 have bdL7:=okM.bnd okL7.1
 clear bdL6
 refine jq (jq (jr (jm Z (jm Z (js (jlss Z Z) (jn (jx ?_)))))))
 refine jif Z (fun hc9=>?_) (fun hc9=>?_)
 have hax:ix aw a7=reach3 (fnM mv) (a7:Int):=by rw[haw];exact awayL_ix _ (by omega)
 have hala7:(ix aw a7).length=mv.bs.length:=by rw[hax,reach3_len];rfl
 refine jsk (jx (jq (jb (jr (jm Z (jm Z (jg Z Z (.t _) (fun hg=>jmv Z) (jg Z Z (.t _) (fun hg=>jmv Z) (jg Z Z (.t _) (fun hg=>jeql (evg Z hg) (evg Z hg)) (jg Z Z (.t _) (fun hg=>jmv (evg Z hg)) (jg Z Z (.gf _ _) (fun hg=>jmv Z) ?_)))))))))))
 refine jg Z Z (.gf _ _) (fun hg=>jmv Z) (jg Z Z (.gf _ _) (fun hg=>jig U93 Z4 k1 (evg Z hg) (evg Z hg) Z (by first|omega|(simp at hg;omega)|(simp only[List.length_set];omega)|(simp;done))) (jg Z Z (.gf _ _) (fun hg=>jgB k1 (by first|omega|(simp at hg;omega)|(simp only[List.length_set];omega)|(simp;done)) O4 (evg Z hg)) (jg Z Z (.t _) (fun hg=>jor2 hg Z Z) (jg Z Z (.t _) (fun hg=>jmv (evg Z hg)) (jg Z Z (.gf _ _) (fun hg=>jmv Z) (jg Z Z (.gf _ _) (fun hg=>jmv Z) (jg Z Z (.gf _ _) (fun hg=>jig U168 Z93 k0 (evg Z hg) (evg Z hg) Z (by first|omega|(simp at hg;omega)|(simp only[List.length_set];omega)|(simp;done))) (jge (q:=fun v=>dv (rL rB) v (ix aw a7)) Z Z (.gf _ _) (fun hg=>jgV k0 (by first|omega|(simp at hg;omega)|(simp only[List.length_set];omega)|(simp;done)) O93 Z (evg Z hg)) fun v187=>jg Z Z (.gf _ _) (fun hg=>jmv Z) (jg Z Z (.gf _ _) (fun hg=>jix U93 Z4 (d0.on hg) (evg Z hg) (evg Z hg) Z (by first|omega|(simp at hg;omega)|(simp only[List.length_set];omega)|(simp;done))) (jg Z Z (.gf _ _) (fun hg=>jlB (dix (d0.on hg) b5 (by first|omega|(simp at hg;omega)|(simp only[List.length_set];omega)|(simp;done))) O4 (evg Z hg)) ?_))))))))))
 refine jg Z Z (.t _) (fun hg=>jor2 hg Z Z) (js (jand Z Z) (ja Z (jn (jbn (jx (jr (jm Z (js (jadd Z Z (by omega)) (ja Z (jn ?_))))))))))
 exact jag (a7+1,r7&&(((decide (((a7:Nat):Int)=((b5:Nat):Int)))||(ix dn5 a7))||(ix (ix aw a7) b5)),al7,qs7) ⟨by dsimp only;omega,by dsimp only;rw[readyF_s,←hr7,okA,←hax];simp[Bool.or_assoc,show((a7:Int)=(b5:Int))↔a7=b5 by omega],okL7.mono (Nat.le_refl _)⟩ (dc d1 (dc d2 dn)) (kd (kd (kd (kc k0 kn)))) ⟨Z,Z,Z,Z,Z,Z,Z,Z,Z,Z,eqI (by omega),trivial⟩
 have hrF:r7=readyF (fnM mv) dn5 b5 (Int.toNat (nn)):=by rw[hr7,show a7=(Int.toNat (nn)) by omega]
 refine jex (jtx (jtx (jbh (jx (jq (jq (jr (jm Z (js (jnot Z) (jn (jx ?_)))))))))))
 refine jif Z (fun hc10=>?_) (fun hc10=>?_)
 have hnr:¬(readyF (fnM mv) dn5 b5 (Int.toNat (nn))=true):=by rw[←hrF];simpa using hc10
 refine jex (jtx (jbh (jx (jr (jm Z (js (jadd Z Z (by omega)) (ja Z (jn ?_))))))))
 exact jag (b5+1,dn5,mv,al7,qs7) ⟨by dsimp only;omega,hdl5,hpv,by dsimp only;rw[hR5,show(Int.toNat (nn))-b5=((Int.toNat (nn))-(b5+1))+1 by omega,rowS,if_neg hnr],okL7.mono (by omega)⟩ (dc d0 (dc d1 dn)) (kc k1 (kc k1 (kc k1 (kc k1 (kc k1 (kc k1 kn)))))) ⟨Z,Z,Z,Z,Z,Z,Z,eqI (by omega),trivial⟩
 have hrd:readyF (fnM mv) dn5 b5 (Int.toNat (nn))=true:=by rw[←hrF];simpa using hc10
 refine jsk (jx (jq (jr (jm Z (jm Z (js (jig U93 Z4 k1 Z Z Z (by omega)) (jsg k1 Z Z4 Z Z Z (by omega) wB (jn (jx (jq (jr ?_)))))))))))
 refine jm Z (jlit (r:=(rI .i64)) (l:=[]) U22 I3 (by decide) Z Z Z ln fun g199=>js (jnil Z) (js (jf F106_4 Z) (jst k4 Z22 Z Z Z s5 (jkn (c:=200+3690*u+410*b5+1) ({ mv with lv:=[] }) (kd (kc k4 kn)) ⟨(okM.setlv okL7.1 (by simp only[List.length_append,List.length_cons,List.length_nil];omega) (by omega)),okL7.2⟩ fun ms40 hms40 oms40 bms40=>?_))))
 clear bdL7
 refine jn (jx (jq (jq (jr (ja Z (jn (jx (jb ?_))))))))
 refine jlp (u4 fun(i8:Nat) (mx:Mk) (al8:Value) (qs8:List BV)=>⟨i8≤mv.par.toNat∧mx={ mv with lv:=numsL i8 }∧okS (Int.toNat nn) (200+3690*u+410*b5+1) s mx,[dv (rL (rL (rI .i64))) v53 ((targM nn m49).1),dv (rL (rI .i64)) a0 s],[bx g33 106 [a0,.int .i64 mx.k,.int .i64 mx.par,(.slice (some ⟨g56,0,none⟩) (Int.toNat nn) (Int.toNat nn)),.int .i64 mx.nx,al8],gl X.n (rI .i64) 3 al8 mx.lv,bk X.n (.slice (some ⟨g56,0,none⟩) (Int.toNat nn) (Int.toNat nn)) qs8 mx.bs,gl X.n rB 4 (.slice (some ⟨g136,0,none⟩) (Int.toNat nn) (Int.toNat nn)) (List.set dn5 b5 true),gl X.n (rL rB) 93 va aw,gl X.n (rI .i64) 3 (.slice (some ⟨g79,0,none⟩) (Int.toNat nn) (Int.toNat nn)) ph,bx g2 104 [.int .i64 0,.slice none 0 0]],[(2,.pointer (some ⟨g2,0,none⟩)),(3,.pointer (some ⟨g33,0,none⟩)),(4,.int .i64 nn),(5,v53),(7,(.slice (some ⟨g79,0,none⟩) (Int.toNat nn) (Int.toNat nn))),(11,(.slice (some ⟨g136,0,none⟩) (Int.toNat nn) (Int.toNat nn))),(12,.int .i64 (↑u)),(13,.int .i64 (↑b5)),(15,va),(18,.int .i64 (↑i8))],mv.par.toNat-i8⟩) (0,ms40,(.slice (some ⟨g199,0,none⟩) 0 0),qs7) ⟨Nat.zero_le _,by dsimp only;rw[hms40];rfl,oms40.mono (Nat.le_refl _)⟩ (dc d0 (dc d1 dn)) (kd (kd (kd (kc k1 kn)))) ⟨Z,Z,Z,Z,Z,Z,Z,Z,Z,eqI (by omega),trivial⟩ ?_
 rintro⟨i8,mx,al8,qs8⟩;dsimp only[u4];rintro⟨hi8,hmx,okL8⟩
 refine cgo k1 fun w41=>?_
 have bdL8:=okM.bnd okL8.1
 clear bms40
 have hmxl:mx.lv.length=i8:=by rw[hmx];exact numsL_len _
 have hmxp:mx.par=mv.par:=by rw[hmx]
 refine jq (jq (jr (jm Z (jm Z (js (jnil Z) (js (jf F106_2 Z) (js (jf F104_0 Z) (js (jl k0 O3 Z Z) (js (jlss Z Z) (jn (jx ?_)))))))))))
 refine jif Z (fun hc11=>?_) (fun hc11=>?_)
 refine jsk (jx (jq (jb (jr (jm Z (jm Z (js (jnil Z) (js (jf F106_4 Z) (js (jl k0 O22 Z Z) (jm Z (japv U22 I3 (by decide) Z Z k1 Z (wI (wp (IntWalk.i64_in _ (by omega)))) (by omega) (fun _=>Z) fun v218 _ w42=>?_)))))))))))
 refine js (jnil Z) (js (jf F106_4 Z) (jst k1 Z22 Z Z w42.one s5 (jkn (c:=200+3690*u+410*b5+1) ({ mx with lv:=mx.lv++[↑i8] }) (kd (kc k0 kn)) ⟨(okM.setlv okL8.1 (by rw[List.length_append];simp only[List.length_cons,List.length_nil];omega) (Nat.le_refl _)),okL8.2⟩ fun ms43 hms43 oms43 bms43=>?_)))
 clear bdL8
 refine jn (jbn (jx (jr (jm Z (js (jadd Z Z (by omega)) (ja Z (jn ?_)))))))
 exact jag (i8+1,ms43,v218,qs8) ⟨by dsimp only;omega,by dsimp only;rw[hms43,hmx,numsL_s],oms43.mono (Nat.le_refl _)⟩ (dc d0 (dc d1 dn)) (kd (kd (kd (kc k0 kn)))) ⟨Z,Z,Z,Z,Z,Z,Z,Z,Z,eqI (by omega),trivial⟩
 refine jex (jtx (jtx (jbh (jx (jq (jq (jr (ja Z (jn (jx (jb ?_)))))))))))
 refine jlp (u4 fun(a9:Nat) (my:Mk) (al9:Value) (qs9:List BV)=>⟨a9≤(Int.toNat (nn))∧my={ mv with lv:=lvF (fnM mv) (List.set dn5 b5 true) b5 a9 }∧okS (Int.toNat nn) (200+3690*u+410*b5+1) s my,[dv (rL (rL (rI .i64))) v53 ((targM nn m49).1),dv (rL (rI .i64)) a0 s],[bx g33 106 [a0,.int .i64 my.k,.int .i64 my.par,(.slice (some ⟨g56,0,none⟩) (Int.toNat nn) (Int.toNat nn)),.int .i64 my.nx,al9],gl X.n (rI .i64) 3 al9 my.lv,bk X.n (.slice (some ⟨g56,0,none⟩) (Int.toNat nn) (Int.toNat nn)) qs9 my.bs,gl X.n rB 4 (.slice (some ⟨g136,0,none⟩) (Int.toNat nn) (Int.toNat nn)) (List.set dn5 b5 true),gl X.n (rL rB) 93 va aw,gl X.n (rI .i64) 3 (.slice (some ⟨g79,0,none⟩) (Int.toNat nn) (Int.toNat nn)) ph,bx g2 104 [.int .i64 0,.slice none 0 0]],[(2,.pointer (some ⟨g2,0,none⟩)),(3,.pointer (some ⟨g33,0,none⟩)),(4,.int .i64 nn),(5,v53),(7,(.slice (some ⟨g79,0,none⟩) (Int.toNat nn) (Int.toNat nn))),(11,(.slice (some ⟨g136,0,none⟩) (Int.toNat nn) (Int.toNat nn))),(12,.int .i64 (↑u)),(13,.int .i64 (↑b5)),(15,va),(19,.int .i64 (↑a9))],(Int.toNat (nn))-a9⟩) (0,mx,al8,qs8) ⟨Nat.zero_le _,by dsimp only;rw[hmx,show i8=mv.par.toNat by omega];simp[lvF,fnM],okL8.mono (Nat.le_refl _)⟩ (dc d0 (dc d1 dn)) (kd (kd (kd (kc k0 kn)))) ⟨Z,Z,Z,Z,Z,Z,Z,Z,Z,eqI (by omega),trivial⟩ ?_
 rintro⟨a9,my,al9,qs9⟩;dsimp only[u4];rintro⟨ha9,hmy,okL9⟩
 refine cgo k1 fun w44=>?_
 have bdL9:=okM.bnd okL9.1
 clear bdL8
 have hmyb:my.bs=mv.bs:=by rw[hmy]
 have hll9:a9≤(Int.toNat (nn))→(lvF (fnM mv) (List.set dn5 b5 true) b5 a9).length≤mv.par.toNat+2*cntT (mv.bs.take a9):=fun h9=>lvF_len (f:=(fnM mv)) (by show a9≤mv.bs.length;rw[←hmyb];omega)
 have hl9:=hll9 ha9
 have hct:=cntT_le mv.bs (a9+1)
 have hmp9:my.par=mv.par:=by rw[hmy]
 have hmlv:my.lv.length=(lvF (fnM mv) (List.set dn5 b5 true) b5 a9).length:=by rw[hmy]
 refine jq (jq (jr (jm Z (jm Z (js (jlss Z Z) (jn (jx ?_)))))))
 refine jif Z (fun hc12=>?_) (fun hc12=>?_)
 have hax9:ix aw a9=reach3 (fnM mv) (a9:Int):=by rw[haw];exact awayL_ix _ (by omega)
 have hala9:(ix aw a9).length=mv.bs.length:=by rw[hax9,reach3_len];rfl
 refine jsk (jx (jq (jb (jq (jq (jr (jm Z (jm Z (js (jneq Z Z) (jm Z (jg Z Z (.t _) (fun hg=>jmv Z) ?_)))))))))))
 refine jg Z Z (.t _) (fun hg=>jmv Z) (jg Z Z (.t _) (fun hg=>jig U93 Z4 k3 (evg Z hg) (evg Z hg) Z (by first|omega|(simp at hg;omega)|(simp only[List.length_set];omega)|(simp;done))) (jg Z Z (.t _) (fun hg=>jgB k3 (by first|omega|(simp at hg;omega)|(simp only[List.length_set];omega)|(simp;done)) O4 (evg Z hg)) (jg Z Z (.t _) (fun hg=>jnot (evg Z hg)) (jg Z Z (.t _) (fun hg=>jmv (evg Z hg)) (jg Z Z (.gf _ _) (fun hg=>jmv Z) (jg Z Z (.gf _ _) (fun hg=>jmv Z) (jg Z Z (.gf _ _) (fun hg=>jig U168 Z93 k4 (evg Z hg) (evg Z hg) Z (by first|omega|(simp at hg;omega)|(simp only[List.length_set];omega)|(simp;done))) (jge (q:=fun v=>dv (rL rB) v (ix aw a9)) Z Z (.gf _ _) (fun hg=>jgV k4 (by first|omega|(simp at hg;omega)|(simp only[List.length_set];omega)|(simp;done)) O93 Z (evg Z hg)) fun v239=>jg Z Z (.gf _ _) (fun hg=>jmv Z) (jg Z Z (.gf _ _) (fun hg=>jix U93 Z4 (d0.on hg) (evg Z hg) (evg Z hg) Z (by first|omega|(simp at hg;omega)|(simp only[List.length_set];omega)|(simp;done))) (jg Z Z (.gf _ _) (fun hg=>jlB (dix (d0.on hg) b5 (by first|omega|(simp at hg;omega)|(simp only[List.length_set];omega)|(simp;done))) O4 (evg Z hg)) ?_))))))))))
 refine jg Z Z (.t _) (fun hg=>jor2 hg Z Z) (js (jand Z Z) (jn (jx ?_)))
 refine jif Z (fun hc13=>?_) (fun hc13=>?_)
 have hsk:skipA (fnM mv) (List.set dn5 b5 true) b5 a9=true:=by unfold skipA;rw[←hax9];simpa[show((a9:Int)=(b5:Int))↔a9=b5 by omega] using hc13
 refine jex (jtx (jbh (jx (jr (jm Z (js (jadd Z Z (by omega)) (ja Z (jn ?_))))))))
 exact jag (a9+1,my,al9,qs9) ⟨by dsimp only;omega,by dsimp only;rw[hmy,lvF_s,lvB,if_pos hsk,List.append_nil],okL9.mono (Nat.le_refl _)⟩ (dc d1 (dc d2 dn)) (kd (kd (kd (kc k0 kn)))) ⟨Z,Z,Z,Z,Z,Z,Z,Z,Z,eqI (by omega),trivial⟩
 have hsk:¬(skipA (fnM mv) (List.set dn5 b5 true) b5 a9=true):=by unfold skipA;rw[←hax9];simp[show((a9:Int)=(b5:Int))↔a9=b5 by omega] at hc13 ⊢;exact fun h9=>hc13.resolve_left h9
 refine jsk (jx (jq (jq (jr (ja Z (jn (jx (jb ?_))))))))
 refine jlp (u4 fun(i10:Nat) (mz:Mk) (al10:Value) (qs10:List BV)=>⟨i10≤(ix mv.bs a9).Phis.length∧mz={ mv with lv:=lvF (fnM mv) (List.set dn5 b5 true) b5 a9++((ix mv.bs a9).Phis.take i10).map (·.Dst) }∧okS (Int.toNat nn) (200+3690*u+410*b5+1) s mz,[dv (rL (rL (rI .i64))) v53 ((targM nn m49).1),dv (rL (rI .i64)) a0 s],[bx g33 106 [a0,.int .i64 mz.k,.int .i64 mz.par,(.slice (some ⟨g56,0,none⟩) (Int.toNat nn) (Int.toNat nn)),.int .i64 mz.nx,al10],gl X.n (rI .i64) 3 al10 mz.lv,bk X.n (.slice (some ⟨g56,0,none⟩) (Int.toNat nn) (Int.toNat nn)) qs10 mz.bs,gl X.n rB 4 (.slice (some ⟨g136,0,none⟩) (Int.toNat nn) (Int.toNat nn)) (List.set dn5 b5 true),gl X.n (rL rB) 93 va aw,gl X.n (rI .i64) 3 (.slice (some ⟨g79,0,none⟩) (Int.toNat nn) (Int.toNat nn)) ph,bx g2 104 [.int .i64 0,.slice none 0 0]],[(2,.pointer (some ⟨g2,0,none⟩)),(3,.pointer (some ⟨g33,0,none⟩)),(4,.int .i64 nn),(5,v53),(7,(.slice (some ⟨g79,0,none⟩) (Int.toNat nn) (Int.toNat nn))),(11,(.slice (some ⟨g136,0,none⟩) (Int.toNat nn) (Int.toNat nn))),(12,.int .i64 (↑u)),(13,.int .i64 (↑b5)),(15,va),(19,.int .i64 (↑a9)),(20,.int .i64 (↑i10))],(ix mv.bs a9).Phis.length-i10⟩) (0,my,al9,qs9) ⟨Nat.zero_le _,by dsimp only;rw[hmy];simp,okL9.mono (Nat.le_refl _)⟩ (dc d1 (dc d2 dn)) (kd (kd (kd (kc k0 kn)))) ⟨Z,Z,Z,Z,Z,Z,Z,Z,Z,Z,eqI (by omega),trivial⟩ ?_
 rintro⟨i10,mz,al10,qs10⟩;dsimp only[u4];rintro⟨hi10,hmz,okL10⟩
 refine cgo k1 fun w46=>?_
 have bdL10:=okM.bnd okL10.1
 clear bdL9
 have hmzb:mz.bs=mv.bs:=by rw[hmz]
 have hmzl:mz.lv.length=(lvF (fnM mv) (List.set dn5 b5 true) b5 a9).length+i10:=by rw[hmz];simp;omega
 have hmzp:(ix mz.bs a9).Phis.length=(ix mv.bs a9).Phis.length:=by rw[hmz]
 have hct9:=cntT_take (l:=mv.bs) (k:=a9) (by omega)
 have hmpz:mz.par=mv.par:=by rw[hmz]
 have hczz:cntT mz.bs=cntT mv.bs:=by rw[hmzb]
 refine jq (jq (jr (jm Z (jm Z (js (jnil Z) (js (jf F106_2 Z) (js (jf F104_1 Z) (js (jl k0 O102 Z Z) (jm Z (js (jbi' (j:=a9) U102 Z160 hvb7 Z Z Z (by omega)) (js (jf F160_0 Z) ?_)))))))))))
 refine js (jbh0 k2 (by omega) O32 Z Z) (js (jbn0 U32 k2 (by omega) Z) (js (jlss Z Z) (jn (jx ?_))))
 refine jif Z (fun hc14=>?_) (fun hc14=>?_)
 refine jsk (jx (jq (jb (jany true (.a 0 (.a 1 (.a 2 (.a 3 (.a 4 (.a 5 (.a 6 (.a 7 (.a 8 (.a 9 (.a 10 (.a 11 (.a 12 (.a 13 (.a 14 (.a 15 (.a 16 (.a 17 (.o 18 (.o 19 (.a 20 (.a 21 (.o 22 .e))))))))))))))))))))))) Mixed (by kernel_rfl) (kc k0 (kc k1 kn)) fun F47=>jy Z (jmv Z) (jy Z (jmv Z) (jy Z (jnil Z) (jy Z (jf F106_4 Z) (jy Z (jl k0 O22 Z Z) (jy Z (jmv Z) (jy Z (jnil Z) ?_))))))))))
 refine jy Z (jf F106_2 Z) (jy Z (jf F104_1 Z) (jy Z (jl k0 O102 Z Z) (jy Z (jmv Z) (jy Z (jbi' (j:=a9) U102 Z160 hvb7 Z Z Z (by omega)) (jy Z (jf F160_0 Z) (jy Z (jbh0 k1 (by omega) O32 Z Z) (jy Z (jmv Z) (jy Z (jbi0 (i:=i10) U32 Z62 k1 (by omega) Z Z Z (by omega)) (jy Z (jf F62_0 Z) (jy Z (jbd0 k1 (by omega) (by omega) O3 Z Z) (jyo Z ?_)))))))))))
 refine jlit (r:=(rI .i64)) (l:=[(ix (ix mz.bs a9).Phis i10).Dst]) U22 I3 (by decide) Z Z Z (lV Z Z (wI (wbd0 k2 (by omega) (by omega))) ln) fun g277=>jyn d0 (kc k1 (kc k2 kn)) (jyo Z (jfz k0 (by(try simp)<;>omega) (japl U22 I3 (by decide) Z k1 Z Z d0 (by(try simp)<;>omega) fun v278 w51=>jyn d1 (kc k1 (kc k1 kn)) (jy Z (jnil Z) (jy Z (jf F106_4 Z) (jyo Z (jst k1 Z22 Z Z w51.one s5 (jkn (c:=200+3690*u+410*b5+1) ({ mz with lv:=mz.lv++([(ix (ix mz.bs a9).Phis i10).Dst]) }) (kd (kc k0 kn)) ⟨(okM.setlv okL10.1 (by rw[List.length_append];simp only[List.length_cons,List.length_nil];omega) (Nat.le_refl _)),okL10.2⟩ fun ms53 hms53 oms53 bms53=>?_))))))))
 clear bdL10
 refine jyz d0 (jyd (jbn (jx (jr (jm Z (js (jadd Z Z (by omega)) (ja Z (jn ?_))))))))
 exact jag (i10+1,ms53,v278,qs10) ⟨by dsimp only;omega,by dsimp only;rw[hms53,hmz];dsimp only;rw[map_snoc (by omega),List.append_assoc],oms53.mono (Nat.le_refl _)⟩ (dc d4 (dc d5 dn)) (kd (kd (kd (kc k0 kn)))) ⟨Z,Z,Z,Z,Z,Z,Z,Z,Z,Z,eqI (by omega),trivial⟩
 refine jex (jtx (jtx (jbh (jx (jq (jr (ja Z (jn (jx (jb ?_))))))))))
 refine jlp (u4 fun(i11:Nat) (mo:Mk) (al11:Value) (qs11:List BV)=>⟨i11≤(ix mv.bs a9).Ins.length∧mo={ mv with lv:=lvF (fnM mv) (List.set dn5 b5 true) b5 a9++((ix mv.bs a9).Phis.map (·.Dst)++((ix mv.bs a9).Ins.take i11).flatMap makes3) }∧okS (Int.toNat nn) (200+3690*u+410*b5+1) s mo,[dv (rL (rL (rI .i64))) v53 ((targM nn m49).1),dv (rL (rI .i64)) a0 s],[bx g33 106 [a0,.int .i64 mo.k,.int .i64 mo.par,(.slice (some ⟨g56,0,none⟩) (Int.toNat nn) (Int.toNat nn)),.int .i64 mo.nx,al11],gl X.n (rI .i64) 3 al11 mo.lv,bk X.n (.slice (some ⟨g56,0,none⟩) (Int.toNat nn) (Int.toNat nn)) qs11 mo.bs,gl X.n rB 4 (.slice (some ⟨g136,0,none⟩) (Int.toNat nn) (Int.toNat nn)) (List.set dn5 b5 true),gl X.n (rL rB) 93 va aw,gl X.n (rI .i64) 3 (.slice (some ⟨g79,0,none⟩) (Int.toNat nn) (Int.toNat nn)) ph,bx g2 104 [.int .i64 0,.slice none 0 0]],[(2,.pointer (some ⟨g2,0,none⟩)),(3,.pointer (some ⟨g33,0,none⟩)),(4,.int .i64 nn),(5,v53),(7,(.slice (some ⟨g79,0,none⟩) (Int.toNat nn) (Int.toNat nn))),(11,(.slice (some ⟨g136,0,none⟩) (Int.toNat nn) (Int.toNat nn))),(12,.int .i64 (↑u)),(13,.int .i64 (↑b5)),(15,va),(19,.int .i64 (↑a9)),(21,.int .i64 (↑i11))],(ix mv.bs a9).Ins.length-i11⟩) (0,mz,al10,qs10) ⟨Nat.zero_le _,by dsimp only;rw[hmz,List.take_of_length_le (by omega)];simp,okL10.mono (Nat.le_refl _)⟩ (dc d0 (dc d1 dn)) (kd (kd (kd (kc k0 kn)))) ⟨Z,Z,Z,Z,Z,Z,Z,Z,Z,Z,eqI (by omega),trivial⟩ ?_
 rintro⟨i11,mo,al11,qs11⟩;dsimp only[u4];rintro⟨hi11,hmo,okL11⟩
 refine cgo k1 fun w54=>?_
 have bdL11:=okM.bnd okL11.1
 clear bdL10
 have hmob:mo.bs=mv.bs:=by rw[hmo]
 have hfm:=fm_len (l:=(ix mv.bs a9).Ins.take i11)
 have hmol:mo.lv.length≤(lvF (fnM mv) (List.set dn5 b5 true) b5 a9).length+(ix mv.bs a9).Phis.length+2*i11:=by rw[hmo];rw[List.length_take] at hfm;simp only[List.length_append,List.length_map];omega
 have hmop:(ix mo.bs a9).Ins.length=(ix mv.bs a9).Ins.length:=by rw[hmo]
 have hmpo:mo.par=mv.par:=by rw[hmo]
 have hczo:cntT mo.bs=cntT mv.bs:=by rw[hmob]
 refine jq (jq (jr (jm Z (jm Z (js (jnil Z) (js (jf F106_2 Z) (js (jf F104_1 Z) (js (jl k0 O102 Z Z) (jm Z (js (jbi' (j:=a9) U102 Z160 hvb7 Z Z Z (by omega)) (js (jf F160_1 Z) ?_)))))))))))
 refine js (jbh1 k2 (by omega) O156 Z Z) (js (jbn1 U156 k2 (by omega) Z) (js (jlss Z Z) (jn (jx ?_))))
 refine jif Z (fun hc15=>?_) (fun hc15=>?_)
 refine jsk (jx (jq (jb (jq (jr (jm Z (js (jnil Z) (js (jf F106_2 Z) (js (jf F104_1 Z) (js (jl k0 O102 Z Z) (jm Z ?_)))))))))))
 refine js (jbi' (j:=a9) U102 Z160 hvb7 Z Z Z (by omega)) (js (jf F160_1 Z) (js (jbh1 k2 (by omega) O156 Z Z) (jm Z (js (jbi1 (i:=i11) U156 Z163 k2 (by omega) Z Z Z (by omega)) (jA sIns (jbA1 k2 (by omega) (by omega) A163 Z163 Z) fun c306=>jcd E101 Z Z r3makes_ct (dc d0 dn) kn fun v307 q56 w56=>ja Z (jn (jx (jr (jm Z ?_)))))))))
 refine jm Z (js (jnil Z) (js (jf F106_4 Z) (js (jl k0 O22 Z Z) (jm Z (japl U22 I3 (by decide) Z k1 Z Z d0 (by(try simp)<;>omega) fun v314 w58=>js (jnil Z) (js (jf F106_4 Z) (jst k1 Z22 Z Z w58.one s5 (jkn (c:=200+3690*u+410*b5+1) ({ mo with lv:=mo.lv++(makes3 (ix (ix mo.bs a9).Ins i11)) }) (kd (kc k0 kn)) ⟨(okM.setlv okL11.1 (by rw[List.length_append];have h2:=makes3_len (ix (ix mo.bs a9).Ins i11);omega) (Nat.le_refl _)),okL11.2⟩ fun ms59 hms59 oms59 bms59=>?_))))))))
 clear bdL11
 refine jn (jbn (jx (jr (jm Z (js (jadd Z Z (by omega)) (ja Z (jn ?_)))))))
 exact jag (i11+1,ms59,v314,qs11) ⟨by dsimp only;omega,by dsimp only;rw[hms59,hmo];dsimp only;rw[fm_snoc (by omega),List.append_assoc,List.append_assoc],oms59.mono (Nat.le_refl _)⟩ (dc d2 (dc d3 dn)) (kd (kd (kd (kc k0 kn)))) ⟨Z,Z,Z,Z,Z,Z,Z,Z,Z,Z,eqI (by omega),trivial⟩
 refine jex (jtx (jtx (jbh (jbn (jx (jr (jm Z (js (jadd Z Z (by omega)) (ja Z (jn ?_))))))))))
 exact jag (a9+1,mo,al11,qs11) ⟨by dsimp only;omega,by dsimp only;rw[hmo,lvF_s,lvB,if_neg hsk,List.take_of_length_le (by omega)];rfl,okL11.mono (Nat.le_refl _)⟩ (dc d0 (dc d1 dn)) (kd (kd (kd (kc k0 kn)))) ⟨Z,Z,Z,Z,Z,Z,Z,Z,Z,eqI (by omega),trivial⟩
 have hlv:my=lvM (Int.toNat (nn)) b5 (List.set dn5 b5 true) mv:=by rw[hmy,show a9=(Int.toNat (nn)) by omega];rfl
 refine jex (jtx (jtx (jbh (jx (jq (jr (jm Z (jkr E54 Z Z (m3take_ct okL9 (by omega) 7 (by first|decide|omega|(dsimp only;omega)|(simp only[fnM];omega))) (dc d1 dn) (kd (kc k0 kn)) ⟨tO9 okL9.1,okL9.2⟩ fun m318 hm318 om318 bm318=>?_))))))))
 have w318_0:IntKind.i64.wrap (tVV 7 my)=tVV 7 my:=(IntWalk.i64_in _ (by have h9:=@tV9 7 (by omega) my;omega))
 have tr318:=@tV9 7 (by omega) my
 clear bdL9
 refine ja Z (jn (jx (jq (jq (jr (ja Z (jn (jx (jb ?_)))))))))
 refine jlp (u4 fun(k12:Nat) (mp:Mk) (al12:Value) (qs12:List BV)=>⟨k12≤(Int.toNat (tVV 7 my))∧pl mp=pl mv∧insN b5 (Int.toNat (tVV 7 my)) m318=insN b5 ((Int.toNat (tVV 7 my))-k12) mp∧okS (Int.toNat nn) (200+3690*u+410*b5+1+1+60*k12) s mp,[dv (rL (rL (rI .i64))) v53 ((targM nn m49).1),dv (rL (rI .i64)) a0 s],[bx g33 106 [a0,.int .i64 mp.k,.int .i64 mp.par,(.slice (some ⟨g56,0,none⟩) (Int.toNat nn) (Int.toNat nn)),.int .i64 mp.nx,al12],gl X.n (rI .i64) 3 al12 mp.lv,bk X.n (.slice (some ⟨g56,0,none⟩) (Int.toNat nn) (Int.toNat nn)) qs12 mp.bs,gl X.n rB 4 (.slice (some ⟨g136,0,none⟩) (Int.toNat nn) (Int.toNat nn)) (List.set dn5 b5 true),gl X.n (rI .i64) 3 (.slice (some ⟨g79,0,none⟩) (Int.toNat nn) (Int.toNat nn)) ph,bx g2 104 [.int .i64 0,.slice none 0 0]],[(2,.pointer (some ⟨g2,0,none⟩)),(3,.pointer (some ⟨g33,0,none⟩)),(4,.int .i64 nn),(5,v53),(7,(.slice (some ⟨g79,0,none⟩) (Int.toNat nn) (Int.toNat nn))),(11,(.slice (some ⟨g136,0,none⟩) (Int.toNat nn) (Int.toNat nn))),(12,.int .i64 (↑u)),(13,.int .i64 (↑b5)),(23,.int .i64 (tVV 7 my)),(24,.int .i64 (↑k12))],(Int.toNat (tVV 7 my))-k12⟩) (0,m318,al9,qs9) ⟨Nat.zero_le _,by dsimp only;rw[hm318,hmy];rfl,rfl,om318.mono (by omega)⟩ (dc d0 (dc d1 dn)) (kd (kd (kc k1 (kc k1 kn)))) ⟨Z,Z,Z,Z,Z,Z,Z,Z,Z,eqI (by omega),trivial⟩ ?_
 rintro⟨k12,mp,al12,qs12⟩;dsimp only[u4];rintro⟨hk12,hpp,hR12,okL12⟩
 refine cgo k1 fun w60=>?_
 have bdL12:=okM.bnd okL12.1
 clear bm318
 refine jq (jq (jr (jm Z (jm Z (js (jlss Z Z) (jn (jx ?_)))))))
 refine jif Z (fun hc16=>?_) (fun hc16=>?_)
 refine jsk (jx (jq (jb (jr (jm Z (jm Z (jkb E102 Z Z (m3ins_ct okL12 (by omega) ↑b5 (by first|decide|omega|(dsimp only;omega)|(simp only[fnM];omega))) (dc d1 dn) (kd (kc k0 kn)) ⟨ins3_ok okL12.1 (by omega),(insS_s.trans okL12.2)⟩ p0 fun m326 hm326 om326 bm326 ua326 qs326 w61=>?_)))))))
 clear bdL12
 refine jn (jbn (jx (jr (jm Z (js (jadd Z Z (by omega)) (ja Z (jn ?_)))))))
 exact jag (k12+1,m326,ua326,qs326) ⟨by dsimp only;omega,by dsimp only;rw[hm326,pl_ins,hpp],by dsimp only;rw[hR12,show(Int.toNat (tVV 7 my))-k12=((Int.toNat (tVV 7 my))-(k12+1))+1 by omega,insN,hm326],om326.mono (by omega)⟩ (dc d0 (dc d1 dn)) (kd (kd (kd kn))) ⟨Z,Z,Z,Z,Z,Z,Z,Z,Z,eqI (by omega),trivial⟩
 have hE12:insN b5 (Int.toNat (tVV 7 my)) m318=mp:=by rw[hR12,show(Int.toNat (tVV 7 my))-k12=0 by omega];rfl
 refine jex (jtx (jtx (jbh (jx (jr (jm Z (jm Z (jm Z (jm Z (js (jix U52 Z22 d0 Z Z Z (by omega)) (jev (jlV (dix d0 b5 (by omega)) O22 Z Z) fun v332 q62 w62=>?_)))))))))))
 refine jkb E103 Z Z (m3end_ct okL12 (by omega) ↑b5 (by first|decide|omega|(dsimp only;omega)|(simp only[fnM];omega))) (dc d2 (dc d0 dn)) (kd (kc k0 kn)) ⟨end_ok okL12.1 (by omega),(endS_s.trans okL12.2)⟩ p0 fun m333 hm333 om333 bm333 ua333 qs333 w64=>?_
 clear bdL12
 refine jn (jbn (jx (jr (jm Z (js (jadd Z Z (by omega)) (ja Z (jn ?_)))))))
 exact jag (b5+1,List.set dn5 b5 true,m333,ua333,qs333) ⟨by dsimp only;omega,by simp[hdl5],by dsimp only;rw[hm333,pl_end,hpp,hpv],by dsimp only;rw[hR5,show(Int.toNat (nn))-b5=((Int.toNat (nn))-(b5+1))+1 by omega,rowS,if_pos hrd,blkM,←hlv,←hm318,hE12,hm333],om333.mono (by omega)⟩ (dc d1 (dc d2 dn)) (kc k3 (kc k3 (kd (kd kn)))) ⟨Z,Z,Z,Z,Z,Z,Z,eqI (by omega),trivial⟩
 have hE5:rowS (Int.toNat (nn)) ((targM nn m49).1) (Int.toNat (nn)) 0 dz mu=(dn5,mv):=by rw[hR5,show(Int.toNat (nn))-b5=0 by omega];rfl
 refine jex (jtx (jtx (jbh (jbn (jx (jr (jm Z (js (jadd Z Z (by omega)) (ja Z (jn ?_))))))))))
 exact jag (u+1,dn5,mv,al5,qs5) ⟨by dsimp only;omega,hdl5,by dsimp only;rw[hpv,hpu],by dsimp only;rw[hR4,show(Int.toNat (nn))-u=((Int.toNat (nn))-(u+1))+1 by omega,turnS,hE5],okL5.mono (by omega)⟩ (dc d0 (dc d1 dn)) (kd (kd (kd kn))) ⟨Z,Z,Z,Z,Z,Z,eqI (by omega),trivial⟩
 have hE4:turnS (Int.toNat (nn)) ((targM nn m49).1) (Int.toNat (nn)) (List.replicate (Int.toNat (nn)) false) mr=(dz,mu):=by rw[hR4,show(Int.toNat (nn))-u=0 by omega];rfl
 refine jex (jtx (jtx (jbh (jx (jq (jq (jr (ja Z (jn (jx (jb ?_)))))))))))
 refine jlp (u4 fun(b13:Nat) (mf:Mk) (al13:Value) (qs13:List BV)=>⟨(1≤b13∧b13≤(Int.toNat (nn)))∧pl mf=pl mu∧finS ph ((Int.toNat (nn))-1) 1 mu=finS ph ((Int.toNat (nn))-b13) b13 mf∧okS (Int.toNat nn) (34000+200*b13) s mf,[dv (rL (rI .i64)) a0 s],[gl X.n (rI .i64) 3 (.slice (some ⟨g79,0,none⟩) (Int.toNat nn) (Int.toNat nn)) ph,bx g33 106 [a0,.int .i64 mf.k,.int .i64 mf.par,(.slice (some ⟨g56,0,none⟩) (Int.toNat nn) (Int.toNat nn)),.int .i64 mf.nx,al13],gl X.n (rI .i64) 3 al13 mf.lv,bk X.n (.slice (some ⟨g56,0,none⟩) (Int.toNat nn) (Int.toNat nn)) qs13 mf.bs,bx g2 104 [.int .i64 0,.slice none 0 0]],[(2,.pointer (some ⟨g2,0,none⟩)),(3,.pointer (some ⟨g33,0,none⟩)),(4,.int .i64 nn),(7,(.slice (some ⟨g79,0,none⟩) (Int.toNat nn) (Int.toNat nn))),(25,.int .i64 (↑b13))],(Int.toNat (nn))-b13⟩) (1,mu,al4,qs4) ⟨by omega,rfl,rfl,okL4.mono (by omega)⟩ (dc d1 dn) (kc k1 (kc k1 (kc k1 (kc k1 (kc k1 kn))))) ⟨Z,Z,Z,Z,eqI (by omega),trivial⟩ ?_
 rintro⟨b13,mf,al13,qs13⟩;dsimp only[u4];rintro⟨hb13,hpf,hR13,okL13⟩
 refine cgo k2 fun w65=>?_
 have bdL13:=okM.bnd okL13.1
 clear bdL4
 have hmfl:=okL13.1.2.2.2.2.1
 refine jq (jq (jr (jm Z (jm Z (js (jlss Z Z) (jn (jx ?_)))))))
 refine jif Z (fun hc17=>?_) (fun hc17=>?_)
 refine jsk (jx (jq (jb (jq (jr (jm Z (js (jnil Z) (js (jf F106_2 Z) (js (jla k1 A104 Z104 Z Z Z) (jm Z (jc E98 Z Z (Tg_bt (Tr.dd (r3preds_ct (f:=fnM mf) ↑b13) (fn_dd (IntWalk.i64_in _ (by show _≤mf.par∧mf.par≤_;omega)))) (okL13.lens (by omega) (by omega))) dn (kc k3 kn) (fun _=>p0) (fun _=>p2) fun v344=>jgo k0 fun w66=>?_)))))))))))
 have hpl9:(pd3 (fnM mf) (b13:Int)).length≤mf.bs.length:=preds3_len _ _
 refine jfz k0 (by(try simp)<;>omega) (ja Z (jn (jx (jq (jr (ja Z (jn (jx (jb ?_)))))))))
 refine jlp (u4 fun(i14:Nat) (mg:Mk) (al14:Value) (qs14:List BV)=>⟨i14≤(Int.toNat (ix ph b13))∧pl mg=pl mf∧inP (pd3 (fnM mf) b13) b13 (Int.toNat (ix ph b13)) 0 mf=inP (pd3 (fnM mf) b13) b13 ((Int.toNat (ix ph b13))-i14) i14 mg∧okS (Int.toNat nn) (34000+200*b13+60*i14) s mg,[dv (rL (rI .i64)) v344 (pd3 (fnM mf) ↑b13),dv (rL (rI .i64)) a0 s],[bk X.n (.slice (some ⟨g56,0,none⟩) (Int.toNat nn) (Int.toNat nn)) qs14 mg.bs,gl X.n (rI .i64) 3 (.slice (some ⟨g79,0,none⟩) (Int.toNat nn) (Int.toNat nn)) ph,bx g33 106 [a0,.int .i64 mg.k,.int .i64 mg.par,(.slice (some ⟨g56,0,none⟩) (Int.toNat nn) (Int.toNat nn)),.int .i64 mg.nx,al14],gl X.n (rI .i64) 3 al14 mg.lv,bx g2 104 [.int .i64 0,.slice none 0 0]],[(2,.pointer (some ⟨g2,0,none⟩)),(3,.pointer (some ⟨g33,0,none⟩)),(4,.int .i64 nn),(7,(.slice (some ⟨g79,0,none⟩) (Int.toNat nn) (Int.toNat nn))),(25,.int .i64 (↑b13)),(26,v344),(27,.int .i64 (↑i14))],(Int.toNat (ix ph b13))-i14⟩) (0,mf,al13,qs13) ⟨Nat.zero_le _,rfl,rfl,okL13.mono (by omega)⟩ (dc d0 (dc d1 dn)) (kd (kd (kc k0 kn))) ⟨Z,Z,Z,Z,Z,Z,eqI (by omega),trivial⟩ ?_
 rintro⟨i14,mg,al14,qs14⟩;dsimp only[u4];rintro⟨hi14,hpg,hR14,okL14⟩
 refine cgo k3 fun w68=>?_
 have bdL14:=okM.bnd okL14.1
 clear bdL13
 have hph13:=hph b13
 refine jq (jq (jr (jm Z (jm Z (jm Z (js (jig U22 Z3 k1 Z Z Z (by omega)) (js (jgI k1 (by omega) O3 Z) (js (jlss Z Z) (jn (jx ?_))))))))))
 refine jif Z (fun hc18=>?_) (fun hc18=>?_)
 refine jsk (jx (jq (jb (jq (jr (jlit (r:=rIn) (l:=[]) U60 I64 (by decide) Z Z Z ln fun g353=>ja Z (jn (jx (jq (jq ?_))))))))))
 refine jr (ja Z (jn (jx (jb ?_))))
 refine jlp (u6 fun(k15:Nat) (vi:Value) (li:List D.In) (mh:Mk) (al15:Value) (qs15:List BV)=>⟨k15≤(pd3 (fnM mf) b13).length∧pl mh=pl mg∧li.length=k15∧inS (pd3 (fnM mf) b13) (pd3 (fnM mf) b13).length 0 [] mg=inS (pd3 (fnM mf) b13) ((pd3 (fnM mf) b13).length-k15) k15 li mh∧okS (Int.toNat nn) (34000+200*b13+60*i14+6*k15) s mh,[dv (rL (rI .i64)) v344 (pd3 (fnM mf) ↑b13),dv (rL (rI .i64)) a0 s],[gl X.n rIn 64 vi li,bk X.n (.slice (some ⟨g56,0,none⟩) (Int.toNat nn) (Int.toNat nn)) qs15 mh.bs,gl X.n (rI .i64) 3 (.slice (some ⟨g79,0,none⟩) (Int.toNat nn) (Int.toNat nn)) ph,bx g33 106 [a0,.int .i64 mh.k,.int .i64 mh.par,(.slice (some ⟨g56,0,none⟩) (Int.toNat nn) (Int.toNat nn)),.int .i64 mh.nx,al15],gl X.n (rI .i64) 3 al15 mh.lv,bx g2 104 [.int .i64 0,.slice none 0 0]],[(2,.pointer (some ⟨g2,0,none⟩)),(3,.pointer (some ⟨g33,0,none⟩)),(4,.int .i64 nn),(7,(.slice (some ⟨g79,0,none⟩) (Int.toNat nn) (Int.toNat nn))),(25,.int .i64 (↑b13)),(26,v344),(27,.int .i64 (↑i14)),(28,vi),(29,.int .i64 (↑k15))],(pd3 (fnM mf) b13).length-k15⟩) (0,(.slice (some ⟨g353,0,none⟩) 0 0),[],mg,al14,qs14) ⟨Nat.zero_le _,rfl,rfl,rfl,okL14.mono (by omega)⟩ (dc d0 (dc d1 dn)) (kd (kd (kd kn))) ⟨Z,Z,Z,Z,Z,Z,Z,Z,eqI (by omega),trivial⟩ ?_
 rintro⟨k15,vi,li,mh,al15,qs15⟩;dsimp only[u6];rintro⟨hk15,hph15,hlil,hR15,okL15⟩
 refine cgo k0 fun w69=>cgo k4 fun w70=>?_
 have bdL15:=okM.bnd okL15.1
 clear bdL14
 have hmhl:=okL15.1.2.2.2.2.1
 refine jq (jq (jr (jm Z (jm Z (js (jln U22 d0 Z) (js (jlss Z Z) (jn (jx ?_))))))))
 refine jif Z (fun hc19=>?_) (fun hc19=>?_)
 have hpr:0≤ix (pd3 (fnM mf) b13) k15∧ix (pd3 (fnM mf) b13) k15<(mf.bs.length:Int):=preds3_rng (f:=fnM mf) (b:=(b13:Int)) _ (ix_mem (l:=(pd3 (fnM mf) b13)) (i:=k15) (by omega))
 have hplh:=pl_get (hph15.trans hpg) 0
 have hsl:(stand3 (fnM mh) (ix (pd3 (fnM mf) ↑b13) k15)).length≤mh.par.toNat+2*cntT mh.bs:=stand3_len _ _
 refine jsk (jx (jq (jb (jq (jtl 8 Mixed (by kernel_rfl) (jt (jmv Z) (jt (jnil Z) (jt (jf F106_2 Z) (jt (jla k3 A104 Z104 Z Z Z) (jt (jmv Z) (jt (jmv Z) ?_)))))))))))
 refine jt (jix U22 Z3 d0 Z Z Z (by omega)) (jt (jlI (dix d0 k15 (by omega)) O3 Z) (jtt (jc E104 Z Z (Tg_bt (Tr.dd (r3stand_ct (f:=fnM mh) (ix (pd3 (fnM mf) ↑b13) k15) (by show 0≤_∧_<(mh.bs.length:Int);omega) (by show cntT mh.bs<_;omega) (by show 0≤mh.par∧mh.par≤4;omega)) (fn_dd (IntWalk.i64_in _ (by show _≤mh.par∧mh.par≤_;omega)))) (okL15.lens (by omega) (by omega))) dn (kc k1 kn) (fun _=>p0) (fun _=>p2) fun v368=>jgo k0 fun w71=>ja Z (jn (jx (jq (jq (jr (jm Z (js (jlg U22 k0 Z) ?_))))))))))
 refine js (jeql Z Z) (jn (jx ?_))
 refine jif Z (fun hc20=>?_) (fun hc20=>?_)
 have hz:(stand3 (fnM mh) (ix (pd3 (fnM mf) b13) k15)).length=0:=by omega
 refine jany false (.a 0 (.a 1 (.a 2 (.a 3 (.a 4 (.a 5 (.a 6 (.o 7 (.o 8 (.o 9 (.o 10 (.a 11 .e)))))))))))) Mixed (by kernel_rfl) kn fun F72=>jy Z (jmv Z) (jy Z (jmv Z) (jy Z (jmv Z) (jy Z (jmv Z) (jy Z (jix U22 Z3 d0 Z Z Z (by omega)) (jy Z (jlI (dix d0 k15 (by omega)) O3 Z) (jy Z (jmv Z) (jyo Z (jkr E53 Z Z (m3word_ct okL15 (by omega)) (dc d2 dn) (kc k4 (kc k4 (kc k1 kn))) ⟨word_ok okL15.1,okL15.2⟩ fun m379 hm379 om379 bm379=>?_))))))))
 have w379_0:IntKind.i32.wrap (wordV mh)=wordV mh:=(word_w mh)
 clear bdL15
 refine jyn d0 kn (jyo Z (jkb E105 Z Z (m3const_ct om379 (by omega) (ix (pd3 (fnM mf) ↑b13) k15) (wordV mh) (by first|decide|omega|(dsimp only;omega)|(simp only[fnM];omega)) w379_0) (dc d3 dn) (kd (kc k0 kn)) ⟨const_ok om379.1 (by omega),(constS_s.trans om379.2)⟩ p1 fun m380 hm380 om380 bm380 ua380 qs380 w75=>?_))
 clear bm379
 have hal9:(List.length ((stand3 (fnM mh) (ix (pd3 (fnM mf) ↑b13) k15))++[m379.nx]))=(stand3 (fnM mh) (ix (pd3 (fnM mf) ↑b13) k15)).length+1:=by simp
 refine jyn d1 kn (jyo Z (jlit (r:=(rI .i64)) (l:=[m379.nx]) U22 I3 (by decide) Z Z Z (lV Z Z (wI ((wfw d1))) ln) fun g381=>jyn d0 kn (jyo Z (jfz k0 (by(try simp)<;>omega) (japl U22 I3 (by decide) Z k3 Z Z d0 (by(try simp)<;>omega) fun v382 w80=>jyn d1 kn (jy Z (jas Z) (jyd (jx (jany false (.a 0 (.a 1 (.a 2 (.a 3 (.a 4 (.a 5 (.a 6 (.a 7 (.a 8 (.o 9 (.a 10 (.a 11 (.a 12 (.o 13 (.o 14 (.a 15 .e)))))))))))))))) Mixed (by kernel_rfl) (kc k0 kn) fun F81=>?_)))))))))
 refine jy Z (jmv Z) (jy Z (jmv Z) (jy Z (jmv Z) (jy Z (jix U22 Z3 d6 Z Z Z (by omega)) (jy Z (jlI (dix d6 k15 (by omega)) O3 Z) (jy Z (jmv Z) (jy Z (jmv Z) (jy Z (jmv Z) (jy Z (jlg U22 k0 Z) (jyo Z (jkr E54 Z Z (m3take_ct om380 (by omega) (↑(List.length ((stand3 (fnM mh) (ix (pd3 (fnM mf) ↑b13) k15))++([m379.nx])))) (by first|decide|omega|(dsimp only;omega)|(simp only[fnM];omega))) (dc d8 dn) (kc k1 (kc k1 (kc k1 kn))) ⟨tO9 om380.1,om380.2⟩ fun m392 hm392 om392 bm392=>?_))))))))))
 have w392_0:IntKind.i64.wrap (tVV (↑(List.length ((stand3 (fnM mh) (ix (pd3 (fnM mf) ↑b13) k15))++([m379.nx])))) m380)=tVV (↑(List.length ((stand3 (fnM mh) (ix (pd3 (fnM mf) ↑b13) k15))++([m379.nx])))) m380:=(IntWalk.i64_in _ (by have h9:=@tV9 (↑(List.length ((stand3 (fnM mh) (ix (pd3 (fnM mf) ↑b13) k15))++([m379.nx])))) (by omega) m380;omega))
 have tr392:=@tV9 (↑(List.length ((stand3 (fnM mh) (ix (pd3 (fnM mf) ↑b13) k15))++([m379.nx])))) (by omega) m380
 clear bm380
 refine jyn d0 (kc k3 kn) (jy Z (jig (i:=(Int.toNat (tVV (↑(List.length ((stand3 (fnM mh) (ix (pd3 (fnM mf) ↑b13) k15))++([m379.nx])))) m380))) U22 Z3 k0 Z Z (by omega) (by first|omega|(simp<;>omega))) (jy Z (jgI k0 (by first|omega|(simp<;>omega)) O3 Z) (jy Z (jbu (v := .agg #[.int .i64 (ix (pd3 (fnM mf) ↑b13) k15),.int .i64 (ix ((stand3 (fnM mh) (ix (pd3 (fnM mf) ↑b13) k15))++([m379.nx])) (Int.toNat (tVV (↑(List.length ((stand3 (fnM mh) (ix (pd3 (fnM mf) ↑b13) k15))++([m379.nx])))) m380)))]) Z (fun _=>by kernel_rfl)) (jyo Z (jlit (r:=rIn) (l:=[⟨ix (pd3 (fnM mf) ↑b13) k15,ix ((stand3 (fnM mh) (ix (pd3 (fnM mf) ↑b13) k15))++([m379.nx])) (Int.toNat (tVV (↑(List.length ((stand3 (fnM mh) (ix (pd3 (fnM mf) ↑b13) k15))++([m379.nx])))) m380))⟩]) U60 I64 (by decide) Z Z Z (lA (rIn.M (m:=⟨ix (pd3 (fnM mf) ↑b13) k15,ix ((stand3 (fnM mh) (ix (pd3 (fnM mf) ↑b13) k15))++([m379.nx])) (Int.toNat (tVV (↑(List.length ((stand3 (fnM mh) (ix (pd3 (fnM mf) ↑b13) k15))++([m379.nx])))) m380))⟩) (c:=()) (wad (dix d8 k15 (by omega))) (wgl (i:=(Int.toNat (tVV (↑(List.length ((stand3 (fnM mh) (ix (pd3 (fnM mf) ↑b13) k15))++([m379.nx])))) m380))) k3 (by omega))) ln) fun g396=>jyn d0 (kc k4 kn) (jyo Z (jfz k0 (by(try simp)<;>omega) (japl U60 I64 (by decide) Z k4 Z Z d0 (by(try simp)<;>omega) fun v397 w86=>jyn d1 (kc k4 kn) (jy Z (jas Z) ?_)))))))))
 refine jyd (jbn (jx (jr (jm Z (js (jadd Z Z (by omega)) (ja Z (jn ?_)))))))
 exact jag (k15+1,v397,li++([⟨ix (pd3 (fnM mf) ((b13:Nat):Int)) k15,ix ((stand3 (fnM mh) (ix (pd3 (fnM mf) ((b13:Nat):Int)) k15))++([m379.nx])) (Int.toNat (tVV (((List.length ((stand3 (fnM mh) (ix (pd3 (fnM mf) ((b13:Nat):Int)) k15))++([m379.nx])):Nat):Int)) m380))⟩]),m392,ua380,qs380) ⟨by dsimp only;omega,by dsimp only;simp only[hm379,hm380,hm392];first|exact hph15|exact(pl_const (m:=wordS mh)).trans hph15,by simp[hlil],by dsimp only;rw[hR15,show(pd3 (fnM mf) b13).length-k15=((pd3 (fnM mf) b13).length-(k15+1))+1 by omega,inS,show inX (ix (pd3 (fnM mf) b13) k15) mh=(⟨ix (pd3 (fnM mf) ((b13:Nat):Int)) k15,ix ((stand3 (fnM mh) (ix (pd3 (fnM mf) ((b13:Nat):Int)) k15))++([m379.nx])) (Int.toNat (tVV (((List.length ((stand3 (fnM mh) (ix (pd3 (fnM mf) ((b13:Nat):Int)) k15))++([m379.nx])):Nat):Int)) m380))⟩,m392) from by(unfold inX;first|(rw[if_pos hz];simp[List.eq_nil_of_length_eq_zero hz,hm379,hm380,hm392];done)|(rw[if_neg hz];simp only[hm379,hm380,hm392];done)|(rw[if_neg hz];simp only[hm379,hm380,hm392];rfl))],om392.mono (by omega)⟩ (dc d10 (dc d11 dn)) (kc k0 (kc k2 (kc k3 (kd (kc k1 kn))))) ⟨Z,Z,Z,Z,Z,Z,Z,Z,eqI (by omega),trivial⟩
 have hz:¬(stand3 (fnM mh) (ix (pd3 (fnM mf) b13) k15)).length=0:=by omega
 refine jsk (jx (jany false (.a 0 (.a 1 (.a 2 (.a 3 (.a 4 (.a 5 (.a 6 (.a 7 (.a 8 (.o 9 (.a 10 (.a 11 (.a 12 (.o 13 (.o 14 (.a 15 .e)))))))))))))))) Mixed (by kernel_rfl) (kc k0 kn) fun F87=>jy Z (jmv Z) (jy Z (jmv Z) (jy Z (jmv Z) (jy Z (jix U22 Z3 d0 Z Z Z (by omega)) (jy Z (jlI (dix d0 k15 (by omega)) O3 Z) (jy Z (jmv Z) (jy Z (jmv Z) (jy Z (jmv Z) (jy Z (jlg U22 k0 Z) ?_))))))))))
 refine jyo Z (jkr E54 Z Z (m3take_ct okL15 (by omega) (↑(List.length (stand3 (fnM mh) (ix (pd3 (fnM mf) ↑b13) k15)))) (by first|decide|omega|(dsimp only;omega)|(simp only[fnM];omega))) (dc d2 dn) (kc k4 (kc k4 (kc k1 kn))) ⟨tO9 okL15.1,okL15.2⟩ fun m392 hm392 om392 bm392=>?_)
 have w392_0:IntKind.i64.wrap (tVV (↑(List.length (stand3 (fnM mh) (ix (pd3 (fnM mf) ↑b13) k15)))) mh)=tVV (↑(List.length (stand3 (fnM mh) (ix (pd3 (fnM mf) ↑b13) k15)))) mh:=(IntWalk.i64_in _ (by have h9:=@tV9 (↑(List.length (stand3 (fnM mh) (ix (pd3 (fnM mf) ↑b13) k15)))) (by omega) mh;omega))
 have tr392:=@tV9 (↑(List.length (stand3 (fnM mh) (ix (pd3 (fnM mf) ↑b13) k15)))) (by omega) mh
 clear bdL15
 refine jyn d0 (kc k3 kn) (jy Z (jig (i:=(Int.toNat (tVV (↑(List.length (stand3 (fnM mh) (ix (pd3 (fnM mf) ↑b13) k15)))) mh))) U22 Z3 k0 Z Z (by omega) (by omega)) (jy Z (jgI k0 (by omega) O3 Z) (jy Z (jbu (v := .agg #[.int .i64 (ix (pd3 (fnM mf) ↑b13) k15),.int .i64 (ix (stand3 (fnM mh) (ix (pd3 (fnM mf) ↑b13) k15)) (Int.toNat (tVV (↑(List.length (stand3 (fnM mh) (ix (pd3 (fnM mf) ↑b13) k15)))) mh)))]) Z (fun _=>by kernel_rfl)) (jyo Z (jlit (r:=rIn) (l:=[⟨ix (pd3 (fnM mf) ↑b13) k15,ix (stand3 (fnM mh) (ix (pd3 (fnM mf) ↑b13) k15)) (Int.toNat (tVV (↑(List.length (stand3 (fnM mh) (ix (pd3 (fnM mf) ↑b13) k15)))) mh))⟩]) U60 I64 (by decide) Z Z Z (lA (rIn.M (m:=⟨ix (pd3 (fnM mf) ↑b13) k15,ix (stand3 (fnM mh) (ix (pd3 (fnM mf) ↑b13) k15)) (Int.toNat (tVV (↑(List.length (stand3 (fnM mh) (ix (pd3 (fnM mf) ↑b13) k15)))) mh))⟩) (c:=()) (wad (dix d2 k15 (by omega))) (wgl (i:=(Int.toNat (tVV (↑(List.length (stand3 (fnM mh) (ix (pd3 (fnM mf) ↑b13) k15)))) mh))) k3 (by omega))) ln) fun g396_90=>jyn d0 (kc k4 kn) (jyo Z (jfz k0 (by(try simp)<;>omega) (japl U60 I64 (by decide) Z k4 Z Z d0 (by(try simp)<;>omega) fun v397_93 w94=>jyn d1 (kc k4 kn) (jy Z (jas Z) ?_)))))))))
 refine jyd (jbn (jx (jr (jm Z (js (jadd Z Z (by omega)) (ja Z (jn ?_)))))))
 exact jag (k15+1,v397_93,li++([⟨ix (pd3 (fnM mf) ((b13:Nat):Int)) k15,ix (stand3 (fnM mh) (ix (pd3 (fnM mf) ((b13:Nat):Int)) k15)) (Int.toNat (tVV (((List.length (stand3 (fnM mh) (ix (pd3 (fnM mf) ((b13:Nat):Int)) k15)):Nat):Int)) mh))⟩]),m392,al15,qs15) ⟨by dsimp only;omega,by dsimp only;simp only[hm392];first|exact hph15|exact(pl_const (m:=wordS mh)).trans hph15,by simp[hlil],by dsimp only;rw[hR15,show(pd3 (fnM mf) b13).length-k15=((pd3 (fnM mf) b13).length-(k15+1))+1 by omega,inS,show inX (ix (pd3 (fnM mf) b13) k15) mh=(⟨ix (pd3 (fnM mf) ((b13:Nat):Int)) k15,ix (stand3 (fnM mh) (ix (pd3 (fnM mf) ((b13:Nat):Int)) k15)) (Int.toNat (tVV (((List.length (stand3 (fnM mh) (ix (pd3 (fnM mf) ((b13:Nat):Int)) k15)):Nat):Int)) mh))⟩,m392) from by(unfold inX;first|(rw[if_pos hz];simp[List.eq_nil_of_length_eq_zero hz,hm392];done)|(rw[if_neg hz];simp only[hm392];done)|(rw[if_neg hz];simp only[hm392];rfl))],om392.mono (by omega)⟩ (dc d4 (dc d5 dn)) (kc k0 (kc k2 (kc k3 (kd (kc k1 kn))))) ⟨Z,Z,Z,Z,Z,Z,Z,Z,eqI (by omega),trivial⟩
 have hE15:inS (pd3 (fnM mf) b13) (pd3 (fnM mf) b13).length 0 [] mg=(li,mh):=by rw[hR15,show(pd3 (fnM mf) b13).length-k15=0 by omega];rfl
 have hpi:(ix mh.bs b13).Phis.length=(ix ph b13).toNat:=by rw[pl_get (hph15.trans (hpg.trans (hpf.trans hpu))) b13,hOK2.1 b13,if_pos (by omega)]
 refine jex (jtx (jtx (jbh (jx (jr (jm Z (js (jnil Z) (js (jf F106_2 Z) (js (jf F104_1 Z) (js (jl k3 O102 Z Z) (jm Z ?_)))))))))))
 refine js (jbi' (j:=b13) U102 Z160 hvb7 Z Z Z (by omega)) (js (jf F160_0 Z) (js (jbh0 k1 (by omega) O32 Z Z) (jm Z (jm Z (js (jbi0 (i:=i14) U32 Z62 k1 (by omega) Z Z Z (by omega)) (js (jf F62_1 Z) (jfz k0 (by omega) (jbf0 b13 k0 (by omega) (jsp (i:=i14) (off:=1) (a:={ (ix (ix mh.bs b13).Phis i14) with In:=li }) k0 (by omega) Z60 Z Z Z w69.one (poIn d0) ?_)))))))))
 refine jbw0 (b':={ (ix mh.bs b13) with Phis:=List.set (ix mh.bs b13).Phis i14 { (ix (ix mh.bs b13).Phis i14) with In:=li } }) (c:=?_) k0 k0 (by omega) Z Z
 refine jkn (c:=34000+200*b13+60*i14+6*k15) ({ mh with bs:=List.set mh.bs b13 { (ix mh.bs b13) with Phis:=List.set (ix mh.bs b13).Phis i14 { (ix (ix mh.bs b13).Phis i14) with In:=li } } }) (kc k2 (kc k2 (kc k0 kn))) ⟨(okM.setb (d:=0) okL15.1 (by dsimp only;rw[List.length_set];exact Nat.le_refl _)),okL15.2⟩ fun ms96 hms96 oms96 bms96=>?_
 clear bdL15
 refine jn (jbn (jx (jr (jm Z (js (jadd Z Z (by omega)) (ja Z (jn ?_)))))))
 exact jag (i14+1,ms96,al15,qs15) ⟨by dsimp only;omega,by dsimp only;rw[hms96];exact(pl_putIn (b:=b13) (i:=i14) (l:=li) (m:=mh)).trans (hph15.trans hpg),by dsimp only;rw[hR14,show(Int.toNat (ix ph b13))-i14=((Int.toNat (ix ph b13))-(i14+1))+1 by omega,inP,hE15,hms96];rfl,oms96.mono (by omega)⟩ (dc d1 (dc d2 dn)) (kc k2 (kc k2 (kd (kc k0 kn)))) ⟨Z,Z,Z,Z,Z,Z,eqI (by omega),trivial⟩
 have hE14:inP (pd3 (fnM mf) b13) b13 (Int.toNat (ix ph b13)) 0 mf=mg:=by rw[hR14,show(Int.toNat (ix ph b13))-i14=0 by omega];rfl
 refine jex (jtx (jtx (jbh (jbn (jx (jr (jm Z (js (jadd Z Z (by omega)) (ja Z (jn ?_))))))))))
 exact jag (b13+1,mg,al14,qs14) ⟨by dsimp only;omega,by dsimp only;rw[hpg,hpf],by dsimp only;rw[hR13,show(Int.toNat (nn))-b13=((Int.toNat (nn))-(b13+1))+1 by omega,finS,hE14],okL14.mono (by omega)⟩ (dc d1 dn) (kc k1 (kc k1 (kc k1 (kd kn)))) ⟨Z,Z,Z,Z,eqI (by omega),trivial⟩
 have hE13:finS ph ((Int.toNat (nn))-1) 1 mu=mf:=by rw[hR13,show(Int.toNat (nn))-b13=0 by omega];rfl
 refine jex (jtx (jtx (jbh (jx (jq (jr (jm Z (js (jnil Z) (js (jf F106_2 Z) (js (jla k1 A104 Z104 Z Z Z) (jsta k4 Z104 Z Z Z ⟨Z,Z,trivial⟩ (saf Z) ?_)))))))))))
 refine jn (jx (jrt (qbfz k4 (okL13.lens (by omega) (by omega)) ?_)))
 exact jrcA (val:=vFunc) (b:=⟨mf.par,mf.bs⟩) (c:=(.slice (some ⟨g56,0,none⟩) (Int.toNat nn) (Int.toNat nn))) Z Z k0 A104 Z104 Z (by have e0:md0 s=ms3:=(by simp only[hmm0,hm36,hms2,hms3];rfl);have e1:mdN s=nn:=(by rw[mdN,e0];exact hnn);have e2:mdT s=targM nn m49:=(by rw[mdT,e1,e0,←hm49]);have eB:mdB s=mq:=(by rw[mdB,e2,e1,←hm53,←hms6];exact hE1);have eH:mdH s=(ph,mr):=(by rw[mdH,e1,eB];exact hE2);have eD:mdD s=(dz,mu):=(by rw[mdD,e1,e2,eH];exact hE4);have eF:mdF s=mf:=(by rw[mdF,eH,e1,eD];exact hE13);show fnM (mdF s)=_;rw[eF];rfl) (rFunc.M (m:=⟨mf.par,mf.bs⟩) (c:=(.slice (some ⟨g56,0,none⟩) (Int.toNat nn) (Int.toNat nn))) d0 (wp (IntWalk.i64_in mf.par (by omega))))
def topL:List Int→Int→Int
 | [],t=>t
 | x::l,t=>topL l (if t≤x∧x<8192 then x+1 else t)
def topT:List D.Tg3→Int→Int
 | [],t=>t
 | x::l,t=>topT l (topL x.Makes t)
def top3(f:D.Func):Int:=topT (things3 f) (min (max f.Params 0) 8192)
theorem topL_rng:∀(l:List Int) (t:Int),0≤t∧t≤8192→0≤topL l t∧topL l t≤8192
 | [],_,h=>h
 | x::l,t,h=>by
  rw[topL];refine topL_rng l _ ?_
  split<;>omega
theorem topT_rng:∀(l:List D.Tg3) (t:Int),0≤t∧t≤8192→0≤topT l t∧topT l t≤8192
 | [],_,h=>h
 | x::l,t,h=>by rw[topT];exact topT_rng l _ (topL_rng _ _ h)
theorem top3_rng(f:D.Func):0≤top3 f∧top3 f≤8192:=topT_rng _ _ (by omega)
def insQs:List D.Ins→Mq→Mq
 | [],m=>m
 | x::l,m=>insQs l (insQ x m)
def resQ(m:Mq):Mq:={ m with l:=[] }
def blkQm(x:D.Block)(m:Mq):Mq:=insQs x.Ins (resQ m)
def blkQt(x:D.Block)(m:Mq):Mq:=endQ x.Term (blkQm x m)
def blkQv(x:D.Block)(m:Mq):D.MBlock:=⟨x.Phis,(blkQt x m).l,endV x.Term (blkQm x m)⟩
def ofQ:List D.Block→Mq→List D.MBlock
 | [],_=>[]
 | x::l,m=>blkQv x m::ofQ l (blkQt x m)
def of7(f:D.Func)(s:List Int):D.MFunc:=⟨f.Params,ofQ f.Blocks ⟨s,0,max (top3 f) f.Params,[]⟩⟩
def goodI(i:D.Ins):Prop:=(0≤i.Op∧i.Op≤1000)∧(i.Op=1∨i.Op=17∨(i.Op=15∧1≤i.Args.length)∨2≤i.Args.length)
def goodT(t:D.Term):Prop:=(t.Kind≠2∨(1≤t.Args.length∧2≤t.To.length))∧(t.Kind≠3∨1≤t.Args.length)
def goodB(b:D.Block):Prop:=(∀i∈b.Ins,goodI i)∧goodT b.Term
def goodF(f:D.Func):Prop:=∀b∈f.Blocks,goodB b
theorem goodF.ins{f:D.Func}(h:goodF f){b j:Nat}(hb:b<f.Blocks.length)(hj:j<(ix f.Blocks b).Ins.length):(0≤(ix (ix f.Blocks b).Ins j).Op∧(ix (ix f.Blocks b).Ins j).Op≤1000)∧((ix (ix f.Blocks b).Ins j).Op=1∨(ix (ix f.Blocks b).Ins j).Op=17∨((ix (ix f.Blocks b).Ins j).Op=15∧1≤(ix (ix f.Blocks b).Ins j).Args.length)∨2≤(ix (ix f.Blocks b).Ins j).Args.length) :=
 (h _ (ix_mem hb)).1 _ (ix_mem hj)
theorem goodF.term{f:D.Func}(h:goodF f){b:Nat}(hb:b<f.Blocks.length):((ix f.Blocks b).Term.Kind≠2∨(1≤(ix f.Blocks b).Term.Args.length∧2≤(ix f.Blocks b).Term.To.length))∧((ix f.Blocks b).Term.Kind≠3∨1≤(ix f.Blocks b).Term.Args.length):=(h _ (ix_mem hb)).2
set_option maxRecDepth 4000 in
theorem r3top_ct{a0:Value}{f:D.Func}(hsz:cntT f.Blocks<1000000000):Tv Tryz.prog 94 #[vFunc f a0] [da rFunc (vFunc f a0) f] [] (.int .i64 (top3 f)):=by
 refine jenter (args:=[vFunc f a0]) Tryz.func94 rfl rfl rfl fun w0 X=>?_
 have htl:=things3_len f
 refine jq (jr (jbox Z Z fun g1=>ja Z (jn (jx (jq (jr (js (jf F104_0 Z) (js (jl k0 O3 Z Z) (js (jmax Z Z) (js (jmin Z Z) ?_))))))))))
 refine ja Z (jn (jx (jq (jr (js (jla k0 A104 Z104 Z Z Z) (jcd E140 Z Z (r3things_ct (by omega)) (dc d0 dn) kn fun v12 q1 w1=>ja Z (jn (jx (jq (jq ?_))))))))))
 refine jr (ja Z (jn (jx (jb ?_))))
 refine jlp (u2 fun(k:Nat) (t:Int)=>⟨k≤(things3 f).length∧(0≤t∧t≤8192)∧top3 f=topT ((things3 f).drop k) t,[dv (rL rTg3) v12 (things3 f)],[],[(2,.int .i64 0),(3,.int .i64 t),(4,v12),(5,.int .i64 (↑k))],(things3 f).length-k⟩) (0,min (max f.Params 0) 8192) ⟨Nat.zero_le _,by dsimp only;omega,rfl⟩ (dc d0 dn) kn ⟨Z,eqI (by omega),Z,eqI (by omega),trivial⟩ ?_
 rintro⟨k,t⟩;dsimp only[u2];rintro⟨hk,ht,hT⟩
 refine jq (jq (jr (jm Z (jm Z (js (jln U194 d0 Z) (js (jlss Z Z) (jn (jx ?_))))))))
 refine jif Z (fun hc1=>?_) (fun hc1=>?_)
 refine jsk (jx (jq (jb (jq (jr (ja Z (jn (jx (jb ?_)))))))))
 refine jlp (u2 fun(j:Nat) (u:Int)=>⟨j≤(ix (things3 f) k).Makes.length∧(0≤u∧u≤8192)∧topL (ix (things3 f) k).Makes t=topL ((ix (things3 f) k).Makes.drop j) u,[dv (rL rTg3) v12 (things3 f)],[],[(2,.int .i64 0),(3,.int .i64 u),(4,v12),(5,.int .i64 (↑k)),(6,.int .i64 (↑j))],(ix (things3 f) k).Makes.length-j⟩) (0,t) ⟨Nat.zero_le _,ht,rfl⟩ (dc d0 dn) kn ⟨Z,eqI (by omega),Z,Z,eqI (by omega),trivial⟩ ?_
 rintro⟨j,u⟩;dsimp only[u2];rintro⟨hj,hu,hU⟩
 refine jq (jq (jr (jm Z (jm Z (jm Z (js (jix U194 Z197 d0 Z Z Z (by omega)) (js (jf F197_2 Z) (jev (jlV (rTg3.A_Makes (dix d0 k (by omega))) O22 Z Z) fun v24 q3 w3=>js (jln U22 d0 Z) (js (jlss Z Z) (jn ?_))))))))))
 refine jx ?_
 refine jif Z (fun hc2=>?_) (fun hc2=>?_)
 refine jsk (jx (jq (jb (jq (jr (jm Z (jm Z (js (jix U194 Z197 d1 Z Z Z (by omega)) (js (jf F197_2 Z) (jev (jlV (rTg3.A_Makes (dix d1 k (by omega))) O22 Z Z) fun v33 q5 w5=>jm Z ?_))))))))))
 refine js (jix U22 Z3 d0 Z Z Z (by omega)) (js (jlI (dix d0 j (by omega)) O3 Z) (jm Z (js (jgeq Z Z) (jm Z (jg Z Z (.t _) (fun hg=>jmv Z) (jg Z Z (.t _) (fun hg=>jmv Z) (jg Z Z (.t _) (fun hg=>jix U194 Z197 d2 (evg Z hg) (evg Z hg) Z (by first|omega|(simp at hg;omega)|(simp only[List.length_set];omega)|(simp;done))) (jg Z Z (.t _) (fun hg=>jf F197_2 (evg Z hg)) (jge (q:=fun v=>dv (rL (rI .i64)) v ((ix (things3 f) k).Makes)) Z Z (.t _) (fun hg=>jlV (rTg3.A_Makes (dix d2 k (by first|omega|(simp at hg;omega)|(simp only[List.length_set];omega)|(simp;done)))) O22 Z (evg Z hg)) fun v44=>jg Z Z (.t _) (fun hg=>jmv Z) (jg Z Z (.t _) (fun hg=>jix U22 Z3 (d0.on hg) (evg Z hg) (evg Z hg) Z (by first|omega|(simp at hg;omega)|(simp only[List.length_set];omega)|(simp;done))) ?_))))))))))
 refine jg Z Z (.t _) (fun hg=>jlI (dix (d0.on hg) j (by first|omega|(simp at hg;omega)|(simp only[List.length_set];omega)|(simp;done))) O3 (evg Z hg)) (jg Z Z (.t _) (fun hg=>jlss (evg Z hg) Z) (js (jand Z Z) (jn (jx ?_))))
 refine jif Z (fun hc3=>?_) (fun hc3=>?_)
 have hcc:(u≤ix (ix (things3 f) k).Makes j∧ix (ix (things3 f) k).Makes j<8192):=by simpa using hc3
 refine jr (jm Z (jm Z (js (jix U194 Z197 d3 Z Z Z (by omega)) (js (jf F197_2 Z) (jev (jlV (rTg3.A_Makes (dix d3 k (by omega))) O22 Z Z) fun v54 q8 w8=>jm Z (js (jix U22 Z3 d0 Z Z Z (by omega)) (js (jlI (dix d0 j (by omega)) O3 Z) (js (jadd Z Z (by omega)) (ja Z (jn ?_))))))))))
 refine jbn (jx (jr (jm Z (js (jadd Z Z (by omega)) (ja Z (jn ?_))))))
 exact jag (j+1,(ix ((ix (things3 f) k).Makes) j)+1) ⟨by dsimp only;omega,by dsimp only;omega,by dsimp only;rw[hU,drop_ix (l:=(ix (things3 f) k).Makes) (i:=j) (by omega),topL,if_pos hcc]⟩ (dc d4 dn) kn ⟨Z,eqI (by omega),Z,Z,eqI (by omega),trivial⟩
 have hcc:¬(u≤ix (ix (things3 f) k).Makes j∧ix (ix (things3 f) k).Makes j<8192):=by intro h9;simp at hc3;omega
 refine jsk (jbn (jx (jr (jm Z (js (jadd Z Z (by omega)) (ja Z (jn ?_)))))))
 exact jag (j+1,u) ⟨by dsimp only;omega,by dsimp only;omega,by dsimp only;rw[hU,drop_ix (l:=(ix (things3 f) k).Makes) (i:=j) (by omega),topL,if_neg hcc]⟩ (dc d3 dn) kn ⟨Z,Z,Z,Z,eqI (by omega),trivial⟩
 refine jex (jtx (jtx (jbh (jbn (jx (jr (jm Z (js (jadd Z Z (by omega)) (ja Z (jn ?_))))))))))
 exact jag (k+1,u) ⟨by dsimp only;omega,hu,by dsimp only;rw[hT,drop_ix (l:=(things3 f)) (i:=k) (by omega),topT,hU,List.drop_of_length_le (show(ix (things3 f) k).Makes.length≤j by omega)];rfl⟩ (dc d1 dn) kn ⟨Z,eqI (by omega),Z,eqI (by omega),trivial⟩
 refine jex (jtx (jtx (jbh (jx (jq (jr (jm Z (ja Z (jn (jx (jrt ?_)))))))))))
 exact jrI Z Z (by rw[hT,List.drop_of_length_le (by omega)];rfl)
theorem E94:Ent Tryz.prog 94:=⟨_,Tryz.func94,by kernel_rfl,by kernel_rfl⟩
theorem E95:Ent Tryz.prog 95:=⟨_,Tryz.func95,by kernel_rfl,by kernel_rfl⟩
theorem E96:Ent Tryz.prog 96:=⟨_,Tryz.func96,by kernel_rfl,by kernel_rfl⟩
theorem I37:(Tryz.prog.info? 37).map (fun i=>(i.zero,i.size,i.bytes))=some (some (.agg #[.slice none 0 0,.slice none 0 0,.int .i64 0,.int .i64 0,.int .i64 0,.slice none 0 0,.int .i32 0]),7,104):=by kernel_rfl
theorem Z26:Sz Tryz.prog 26 1:=by unfold Sz;kernel_rfl
theorem J28:(Tryz.prog.info? 28).bind (·.zero)=some (.agg #[.int .i64 0,.slice none 0 0]):=by kernel_rfl
set_option maxRecDepth 8000 in
set_option maxHeartbeats 2000000 in
theorem r7of_ct{a0:Value}{f:D.Func}{a1:Value}{s:List Int}(hgf:goodF f)(hsz:cntT f.Blocks≤50000)(hpr:0≤f.Params∧f.Params≤1000):Ts Tryz.prog 65 #[vFunc f a0,a1] [da rFunc (vFunc f a0) f,dv (rL (rI .i64)) a1 s] [] rMFunc vMFunc (of7 f s):=by
 refine jenter (args:=[vFunc f a0,a1]) Tryz.func65 rfl rfl rfl fun w0 X=>?_
 have htr:=top3_rng f
 refine jq (jr (jbox Z Z fun g2=>jalc J28 Z fun g4=>jn (jx (jq (jany false (.a 0 (.a 1 (.a 3 (.a 4 (.o 2 (.a 5 (.a 6 (.o 7 (.a 8 .e))))))))) Mixed (by kernel_rfl) (kc k1 kn) fun F1=>jy Z (jmv Z) (jy Z (jla k0 A104 Z104 Z Z Z) (jy Z (jf F104_0 Z) (jy Z (jl k0 O3 Z Z) ?_))))))))
 refine jyo Z (jcv E94 Z Z (r3top_ct (by first|decide|omega|assumption)) (dc d1 dn) kn (jyn d0 (kc k1 kn) (jy Z (jmax Z Z) (adq d2 fun q3 w3=>jy Z (jbu (v := .agg #[a1,.int .i64 0,.int .i64 (max (top3 f) f.Params),.slice none 0 0]) Z (fun _=>by obtain⟨_,_,_,rfl⟩:=w3;kernel_rfl)) (jyo Z (jbox Z Z fun g19=>jnl (r:=rMach) (E:=69) (jzn (c:=0) ⟨s,0,max (top3 f) f.Params,[]⟩ (kc k1 (kc k0 kn)) ⟨okQ0 (nb:=10000) (by omega) (by omega),Z⟩ fun mm0 hmm0 omm0 bmm0=>jyn d0 (kc k3 kn) (jy Z (jas Z) ?_))))))))
 refine jyd (jx (jq (jr (js (jf F104_0 Z) (js (jl k3 O3 Z Z) (js (jbu (v := .agg #[.int .i64 f.Params,.slice none 0 0]) Z (fun _=>by kernel_rfl)) (jalc J28 Z fun g6=>jsta k0 Z28 Z Z Z ⟨Z,Z,trivial⟩ (saf Z) (jn (jx (jq ?_))))))))))
 refine jq (jr (ja Z (jn (jx (jb (cnl (r:=rMBlock) (E:=37) ?_))))))
 refine jlp (u5 fun(b:Nat) (ma:Mq) (bl:List D.MBlock) (vb:Value) (la:Value)=>⟨b≤f.Blocks.length∧bl.length=b∧ofQ f.Blocks mm0=bl++ofQ (f.Blocks.drop b) ma∧okSq 10000 (16*cntT (f.Blocks.take b)) s ma,[da rFunc (vFunc f a0) f,dv (rL (rI .i64)) a1 s],[gl X.n rMBlock 37 vb bl,bx g6 28 [.int .i64 f.Params,vb],bx g19 155 [a1,.int .i64 ma.k,.int .i64 ma.nx,la],bx g4 28 [.int .i64 0,.slice none 0 0],bx g2 104 [.int .i64 f.Params,a0]],[(2,.pointer (some ⟨g2,0,none⟩)),(4,.pointer (some ⟨g4,0,none⟩)),(5,.pointer (some ⟨g19,0,none⟩)),(6,.pointer (some ⟨g6,0,none⟩)),(7,.int .i64 (↑b))],f.Blocks.length-b⟩) (0,mm0,[],.slice none 0 0,.slice none 0 0) ⟨Nat.zero_le _,rfl,rfl,omm0.mono (by omega)⟩ (dc d2 (dc d3 dn)) (kd (kc k0 (kc k1 (kc k1 kn)))) ⟨Z,Z,Z,Z,eqI (by omega),trivial⟩ ?_
 rintro⟨b,ma,bl,vb,la⟩;dsimp only[u5];rintro⟨hb,hbn,hOf,okL1⟩
 refine cgo k0 fun w5=>?_
 have bdL1:=okQ.bnd okL1.1
 clear bmm0
 have hct:=cntT_le f.Blocks b
 have hct1:=cntT_le f.Blocks (b+1)
 refine jq (jq (jr (jm Z (js (jf F104_1 Z) (js (jl k4 O102 Z Z) (jdq (rFunc.cB d0) fun q6 w6=>js (jln U102 (rFunc.cB d0) Z) (js (jlss Z Z) (jn (jx ?_)))))))))
 refine jif Z (fun hc1=>?_) (fun hc1=>?_)
 have hct9:=cntT_take (l:=f.Blocks) (k:=b) (by omega)
 refine jsk (jx (jq (jb (jq (jr (js (jbu (v := .agg #[.slice none 0 0,.slice none 0 0,.int .i64 0,.int .i64 0,.int .i64 0,.slice none 0 0,.int .i32 0]) Z (fun _=>by kernel_rfl)) (jalc J37 Z fun g8=>jsta k0 Z37 Z Z Z ⟨Z,Z,Z,Z,Z,Z,Z,trivial⟩ (saf Z) (jn (jx (jq ?_))))))))))
 refine jq (jr (ja Z (jn (jx (jb (cnl (r:=rPhi) (E:=62) ?_))))))
 refine jlp (u3 fun(i:Nat) (pl:List D.Phi) (vp:Value)=>⟨i≤(ix f.Blocks b).Phis.length∧pl=(ix f.Blocks b).Phis.take i∧okSq 10000 (16*cntT (f.Blocks.take b)) s ma,[da rFunc (vFunc f a0) f,dv (rL (rI .i64)) a1 s],[gl X.n rPhi 62 vp pl,bx g8 37 [vp,.slice none 0 0,.int .i64 0,.int .i64 0,.int .i64 0,.slice none 0 0,.int .i32 0],gl X.n rMBlock 37 vb bl,bx g6 28 [.int .i64 f.Params,vb],bx g19 155 [a1,.int .i64 ma.k,.int .i64 ma.nx,la],bx g4 28 [.int .i64 0,.slice none 0 0],bx g2 104 [.int .i64 f.Params,a0]],[(2,.pointer (some ⟨g2,0,none⟩)),(4,.pointer (some ⟨g4,0,none⟩)),(5,.pointer (some ⟨g19,0,none⟩)),(6,.pointer (some ⟨g6,0,none⟩)),(7,.int .i64 (↑b)),(8,.pointer (some ⟨g8,0,none⟩)),(9,.int .i64 (↑i))],(ix f.Blocks b).Phis.length-i⟩) (0,[],.slice none 0 0) ⟨Nat.zero_le _,rfl,okL1.mono (Nat.le_refl _)⟩ (dc d0 (dc d1 dn)) (kd (kd (kd (kc k0 kn)))) ⟨Z,Z,Z,Z,Z,Z,eqI (by omega),trivial⟩ ?_
 rintro⟨i,pl,vp⟩;dsimp only[u3];rintro⟨hi,hpl,okL2⟩
 refine cgo k0 fun w7=>?_
 have bdL2:=okQ.bnd okL2.1
 clear bdL1
 have hpn:pl.length=i:=by rw[hpl,List.length_take];omega
 refine jq (jq (jr (jm Z (js (jf F104_1 Z) (js (jl k6 O102 Z Z) (jm Z (js (jix U102 Z160 (rFunc.cB d0) Z Z Z (by omega)) (js (jf F160_0 Z) (jev (jlV (rBlock.A_Phis (dix (rFunc.cB d0) b (by omega))) O32 Z Z) fun v37 q8 w8=>js (jln U32 d0 Z) (js (jlss Z Z) ?_))))))))))
 refine jn (jx ?_)
 refine jif Z (fun hc2=>?_) (fun hc2=>?_)
 refine jsk (jx (jq (jb (jq (jr (js (jf F104_1 Z) (js (jl k6 O102 Z Z) (jm Z (js (jix U102 Z160 (rFunc.cB d1) Z Z Z (by omega)) (js (jf F160_0 Z) (jev (jlV (rBlock.A_Phis (dix (rFunc.cB d1) b (by omega))) O32 Z Z) fun v47 q10 w10=>?_)))))))))))
 refine jm Z (js (jix U32 Z62 d0 Z Z Z (by omega)) (jA sPhi (jlA (dix d0 i (by omega)) A62 Z62 Z) fun c50=>jalc J62 Z fun g10=>jdq (rPhi.c_In d0) fun q13 w13=>jsta k0 Z62 Z Z Z ⟨Z,w13.one,trivial⟩ (saf Z) (jn (jx (jany true (.a 0 (.a 1 (.a 2 (.a 3 (.a 5 (.a 6 (.o 4 (.o 7 (.a 8 (.o 9 (.o 10 (.a 11 (.o 12 .e))))))))))))) Mixed (by kernel_rfl) (kc k0 (kc k1 kn)) fun F14=>jy Z (jf F37_0 Z) (jy Z (jl k1 O32 Z Z) (jy Z (jf F62_0 Z) ?_)))))))
 refine jy Z (jl k0 O3 Z Z) (jy Z (jf F62_1 Z) (jy Z (jl k0 O60 Z Z) (jyo Z (jlit (r:=rIn) (l:=[]) U60 I64 (by decide) Z Z Z ln fun g55=>jyn d0 (kc k1 (kc k2 kn)) (jyo Z (japlz U60 I64 (by decide) Z k0 Z Z (rPhi.c_In d2) (by(try simp)<;>omega) fun v58 w17=>jyn d0 (kc k1 (kc k2 kn)) (jy Z (jbu (v := .agg #[.int .i64 ((ix ((ix f.Blocks b).Phis) i).Dst),v58]) Z (fun _=>by obtain⟨_,_,_,rfl⟩:=w17;kernel_rfl)) (jyo Z (jfz k0 (by(try simp)<;>omega) ?_)))))))))
 refine jlit (r:=rPhi) (l:=[⟨(ix ((ix f.Blocks b).Phis) i).Dst,(ix ((ix f.Blocks b).Phis) i).In⟩]) U32 I62 (by decide) Z Z Z (lA (rPhi.M (m:=⟨(ix ((ix f.Blocks b).Phis) i).Dst,(ix ((ix f.Blocks b).Phis) i).In⟩) (c:=v58) d0 (rPhi.W_Dst d4)) ln) fun g60=>jyn d1 (kc k1 (kc k2 kn)) (jyo Z (jfz k0 (by(try simp)<;>omega) (japl U32 I62 (by decide) Z k1 Z Z d0 (by(try simp)<;>omega) fun v61 w22=>jyn d1 (kc k1 (kc k1 kn)) (jy Z (jf F37_0 Z) (jyo Z (jst k2 Z32 Z Z w22.one s0 (jyz d0 (jyd (jbn ?_)))))))))
 refine jx (jr (jm Z (js (jadd Z Z (by omega)) (ja Z (jn ?_)))))
 exact jag (i+1,pl++([⟨(ix ((ix f.Blocks b).Phis) i).Dst,(ix ((ix f.Blocks b).Phis) i).In⟩]),v61) ⟨by dsimp only;omega,by dsimp only;rw[hpl,take_ix (by omega)],okL2.mono (Nat.le_refl _)⟩ (dc d10 (dc d11 dn)) (kc k1 (kc k0 (kc k1 (kc k1 (kc k1 (kc k1 (kc k1 kn))))))) ⟨Z,Z,Z,Z,Z,Z,eqI (by omega),trivial⟩
 have hpl9:(ix f.Blocks b).Phis=pl:=by rw[hpl,List.take_of_length_le (by omega)]
 refine jex (jtx (jtx (jbh (jx (jq (jr (jm Z (js (jnil Z) (js (jf F155_3 Z) (jst k4 Z33 Z Z Z s3 (jnl (r:=rMach) (E:=69) ?_)))))))))))
 refine jzn (c:=16*cntT (f.Blocks.take b)) ({ ma with l:=[] }) (kc k1 (kc k0 kn)) ⟨(okQ.setl okL2.1 (Nat.zero_le _) (Nat.le_refl _)),okL2.2⟩ fun ms25 hms25 oms25 bms25=>?_
 clear bdL2
 refine jn (jx (jq (jq (jr (ja Z (jn (jx (jb ?_))))))))
 refine jlp (u3 fun(j:Nat) (mb:Mq) (al3:Value)=>⟨j≤(ix f.Blocks b).Ins.length∧insQs (ix f.Blocks b).Ins (resQ ma)=insQs ((ix f.Blocks b).Ins.drop j) mb∧okSq 10000 (16*cntT (f.Blocks.take b)+12*j) s mb,[da rFunc (vFunc f a0) f,dv (rL (rI .i64)) a1 s],[bx g19 155 [a1,.int .i64 mb.k,.int .i64 mb.nx,al3],gl X.n rMach 69 al3 mb.l,gl X.n rPhi 62 vp pl,bx g8 37 [vp,.slice none 0 0,.int .i64 0,.int .i64 0,.int .i64 0,.slice none 0 0,.int .i32 0],gl X.n rMBlock 37 vb bl,bx g6 28 [.int .i64 f.Params,vb],bx g4 28 [.int .i64 0,.slice none 0 0],bx g2 104 [.int .i64 f.Params,a0]],[(2,.pointer (some ⟨g2,0,none⟩)),(4,.pointer (some ⟨g4,0,none⟩)),(5,.pointer (some ⟨g19,0,none⟩)),(6,.pointer (some ⟨g6,0,none⟩)),(7,.int .i64 (↑b)),(8,.pointer (some ⟨g8,0,none⟩)),(11,.int .i64 (↑j))],(ix f.Blocks b).Ins.length-j⟩) (0,ms25,(.slice none 0 0)) ⟨Nat.zero_le _,by dsimp only;rw[hms25];rfl,oms25.mono (Nat.le_refl _)⟩ (dc d1 (dc d2 dn)) (kd (kd (kd (kd kn)))) ⟨Z,Z,Z,Z,Z,Z,eqI (by omega),trivial⟩ ?_
 rintro⟨j,mb,al3⟩;dsimp only[u3];rintro⟨hj,hIn,okL3⟩
 refine cgo k1 fun w26=>?_
 have bdL3:=okQ.bnd okL3.1
 clear bms25
 refine jq (jq (jr (jm Z (js (jf F104_1 Z) (js (jl k7 O102 Z Z) (jm Z (js (jix U102 Z160 (rFunc.cB d0) Z Z Z (by omega)) (js (jf F160_1 Z) (jev (jlV (rBlock.A_Ins (dix (rFunc.cB d0) b (by omega))) O156 Z Z) fun v72 q27 w27=>js (jln U156 d0 Z) (js (jlss Z Z) ?_))))))))))
 refine jn (jx ?_)
 refine jif Z (fun hc3=>?_) (fun hc3=>?_)
 have hgi:=hgf.ins (b:=b) (j:=j) (by omega) (by omega)
 refine jsk (jx (jq (jb (jr (jm Z (js (jf F104_1 Z) (js (jl k7 O102 Z Z) (jm Z (js (jix U102 Z160 (rFunc.cB d1) Z Z Z (by omega)) (js (jf F160_1 Z) (jev (jlV (rBlock.A_Ins (dix (rFunc.cB d1) b (by omega))) O156 Z Z) fun v83 q29 w29=>?_)))))))))))
 refine jm Z (js (jix U156 Z163 d0 Z Z Z (by omega)) (jA sIns (jlA (dix d0 j (by omega)) A163 Z163 Z) fun c86=>jzb E95 Z Z (m7ins_ct okL3 (by omega) (by first|decide|omega|assumption) (by first|decide|omega|assumption)) (dc d4 (dc d0 dn)) (kd kn) ⟨insQ_ok okL3.1,(insQ_s.trans okL3.2)⟩ p0 fun m87 hm87 om87 bm87 ua87 w32=>?_))
 clear bdL3
 refine jn (jbn (jx (jr (jm Z (js (jadd Z Z (by omega)) (ja Z (jn ?_)))))))
 exact jag (j+1,m87,ua87) ⟨by dsimp only;omega,by dsimp only;rw[hIn,drop_ix (l:=(ix f.Blocks b).Ins) (i:=j) (by omega),insQs,hm87],om87.mono (by omega)⟩ (dc d3 (dc d4 dn)) (kd (kd (kd (kd kn)))) ⟨Z,Z,Z,Z,Z,Z,eqI (by omega),trivial⟩
 have hgt:=hgf.term (b:=b) (by omega)
 have hmb:mb=blkQm (ix f.Blocks b) ma:=by unfold blkQm;rw[hIn,List.drop_of_length_le (show(ix f.Blocks b).Ins.length≤j by omega)];rfl
 refine jex (jtx (jtx (jbh (jx (jq (jr (jm Z (js (jf F104_1 Z) (js (jl k7 O102 Z Z) (jm Z (js (jix U102 Z160 (rFunc.cB d1) Z Z Z (by omega)) ?_)))))))))))
 refine js (jf F160_2 Z) (jA2 sTerm (jlA (rBlock.A_Term (dix (rFunc.cB d1) b (by omega))) A158 Z158 Z) fun c94a c94b=>jze E96 Z Z (m7end_ct okL3 (by omega) (by first|decide|omega|assumption)) (dc d3 (dc d0 dn)) (kd kn) ⟨endQ_ok okL3.1,(endQ_s.trans okL3.2)⟩ fun m95 hm95 om95 bm95 ua95 ce95 w34=>?_)
 clear bdL3
 refine js (jf F37_2 Z) (jdq (rEnd.c_To d0) fun q36 w36=>jsta k3 Z35 Z Z Z ⟨Z,Z,Z,w36.one,Z,trivial⟩ sa.c.c.c.c.c.s.s (jn (jx (jq (jr (jm Z (js (jnil Z) (js (jf F155_3 Z) (js (jl k1 O33 Z Z) (js (jf F37_1 Z) ?_))))))))))
 refine jst k0 Z33 Z Z w34.one s1 (jn (jx (jr (js (jf F28_1 Z) (js (jl k5 O26 Z Z) (js (jla k0 A37 Z37 Z Z Z) (jfz k3 (by omega) (jfz k2 (by omega) (jap U26 I37 (by decide) Z k2 Z (rMBlock.M (m:=⟨pl,m95.l,endV ((ix f.Blocks b).Term) mb⟩) (c:=(vp,ua95,ce95)) d1 d0 (rEnd.c_To d2) (rEnd.W_Op d2) (rEnd.W_A d2) (rEnd.W_B d2) (rEnd.W_Imm d2)) (by omega) (fun _=>Z) fun v106 _ w39=>js (jf F28_1 Z) (jst k3 Z26 Z Z w39.one s1 ?_))))))))))
 refine jn (jbn (jx (jr (jm Z (js (jadd Z Z (by omega)) (ja Z (jn ?_)))))))
 exact jag (b+1,m95,bl++[⟨pl,m95.l,endV ((ix f.Blocks b).Term) mb⟩],v106,ua95) ⟨by dsimp only;omega,by dsimp only;rw[List.length_append,hbn];rfl,by dsimp only;rw[hOf,drop_ix (l:=f.Blocks) (i:=b) (by omega),ofQ,List.append_assoc,blkQv,blkQt,←hmb,←hm95,hpl9];rfl,om95.mono (by dsimp only;omega)⟩ (dc d5 (dc d6 dn)) (kc k1 (kc k0 (kc k1 (kc k1 (kc k1 kn))))) ⟨Z,Z,Z,Z,eqI (by omega),trivial⟩
 refine jex (jtx (jtx (jbh (jx (jq (jr (js (jla k1 A28 Z28 Z Z Z) (jsta k3 Z28 Z Z Z ⟨Z,w5.one,trivial⟩ (saf Z) (jn (jx (jrt ?_)))))))))))
 refine qfz k1 (by omega) ?_
 exact jrcA (val:=vMFunc) (b:=⟨f.Params,bl⟩) (c:=vb) Z Z k0 A28 Z28 Z (by unfold of7;rw[←hmm0,hOf,List.drop_of_length_le (show f.Blocks.length≤b by omega)];simp[ofQ]) (rMFunc.M (m:=⟨f.Params,bl⟩) (c:=vb) d0 (rFunc.W_Params d1))
def goodM(m:Mk):Prop:=∀b∈m.bs,goodB b
theorem goodB0:goodB default:=⟨fun _ h=>(List.not_mem_nil h).elim,⟨.inl (by decide),.inl (by decide)⟩⟩
theorem goodM.ix{m:Mk}(h:goodM m)(j:Nat):goodB (ix m.bs j):=by
 by_cases hj:j<m.bs.length
 ·exact h _ (ix_mem hj)
 ·have:JE.ix m.bs j=default:=by simp[JE.ix,hj]
  rw[this];exact goodB0
theorem goodM.set{m:Mk}(h:goodM m){j:Nat}{x:D.Block}(hx:goodB x):goodM { m with bs:=m.bs.set j x }:=fun b hb=>by
 rcases List.mem_or_eq_of_mem_set hb with h1|h1
 ·exact h b h1
 ·exact h1▸hx
theorem goodI2{op d t a b n:Int}(h:0≤op∧op≤1000):goodI ⟨op,d,t,[a,b],n⟩:=⟨h,.inr (.inr (.inr (by show 2≤2;omega)))⟩
section
variable{m:Mk}{b:Int}
theorem add_good{i:D.Ins}(h:goodM m)(hi:goodI i):goodM (addS b i m):=by
 refine goodM.set (m:={ m with lv:=m.lv++makes3 i }) h ⟨fun x hx=>?_,(h.ix _).2⟩
 rcases List.mem_append.1 hx with h1|h1
 ·exact(h.ix b.toNat).1 _ h1
 ·rw[List.mem_singleton.1 h1];exact hi
theorem const_good{n:Int}(h:goodM m):goodM (constS b n m):=add_good (m:=freshS m) h ⟨(by dsimp only;omega),.inl rfl⟩
theorem value_good(h:goodM m):goodM (valueS m):=by unfold valueS;split<;>exact h
theorem some0_good(h:goodM m):goodM (someM0 m):=by unfold someM0;split<;>exact value_good h
theorem some_good(h:goodM m):goodM (sS9 b m):=by
 unfold sS9;split
 ·exact const_good (m:=wordS (someM0 m)) (some0_good h)
 ·exact some0_good h
theorem mem1_good(h:goodM m):goodM (mem1 b m).2:=by
 unfold mem1;dsimp only;split
 ·exact add_good (m:=freshS _) (add_good (m:=freshS _) (const_good (some_good (m:=tSS _) (const_good (m:=tSS m) h))) (goodI2 (by decide))) (goodI2 (by decide))
 ·exact const_good (m:=tSS m) h
theorem mem2_good(h:goodM m):goodM (mem2 m).2:=by unfold mem2;dsimp only;split<;>exact h
theorem mem_good{s:Bool}(h:goodM m):goodM (memS b s m):=by
 unfold memS;dsimp only;split
 ·exact add_good (some_good (mem2_good (mem1_good h))) (goodI2 (by decide))
 ·exact add_good (m:=freshS _) (mem2_good (mem1_good h)) ⟨(by dsimp only;omega),.inr (.inr (.inl ⟨rfl,by show 1≤1;omega⟩))⟩
theorem args_good:∀(n:Nat) (l:List Int) (m:Mk),goodM m→goodM (argsL b n l m).2
 | 0,_,_,h=>h
 | n+1,_,_,h=>args_good n _ _ (some_good h)
theorem op_rng{k:Int}(h:0≤k∧k<12):0≤ix [(2:Int),2,3,4,5,6,7,8,9,10,12,11] k.toNat∧ix [(2:Int),2,3,4,5,6,7,8,9,10,12,11] k.toNat≤1000:=by
 obtain⟨n,rfl⟩:∃n:Nat,k=n:=⟨k.toNat,by omega⟩
 have:n=0∨n=1∨n=2∨n=3∨n=4∨n=5∨n=6∨n=7∨n=8∨n=9∨n=10∨n=11:=by omega
 rcases this with rfl|rfl|rfl|rfl|rfl|rfl|rfl|rfl|rfl|rfl|rfl|rfl<;>decide
theorem op3_rng{k:Int}(h:0≤k∧k<3):0≤ix [(11:Int),12,13] k.toNat∧ix [(11:Int),12,13] k.toNat≤1000:=by
 obtain⟨n,rfl⟩:∃n:Nat,k=n:=⟨k.toNat,by omega⟩
 have:n=0∨n=1∨n=2:=by omega
 rcases this with rfl|rfl|rfl<;>decide
theorem ins_good(h:goodM m):goodM (insS b m):=by
 have h20:=tV9 (n:=20) (by omega) m
 have h2:goodM (sS9 b (tSS m)):=some_good (m:=tSS m) h
 have h3:=some_good (b:=b) h2
 unfold insS;dsimp only
 split
 ·rename_i hk
  split
  ·exact add_good (m:=freshS _) (const_good (m:=tSS (tSS _)) h3) (goodI2 (op_rng ⟨h20.1,hk⟩))
  ·exact add_good (m:=freshS (tSS _)) h3 (goodI2 (op_rng ⟨h20.1,hk⟩))
 split
 ·exact add_good (m:=freshS _) h3 (goodI2 (by decide))
 split
 ·split
  ·exact add_good (m:=freshS _) (const_good (m:=tSS (tSS _)) (const_good (m:=tSS _) h2)) (goodI2 (by decide))
  ·exact add_good (m:=freshS (tSS _)) (const_good (m:=tSS _) h2) (goodI2 (by decide))
 split
 ·exact mem_good (m:=tSS m) h
 split
 ·exact add_good (m:=tSS (freshS _)) (args_good _ _ (tSS (tSS m)) h) ⟨(by dsimp only;omega),.inr (.inl rfl)⟩
 split
 ·exact add_good (m:=freshS (freshS _)) h3 (goodI2 (by decide))
 ·exact const_good (m:=wordS (tSS m)) h
theorem setT_good{t:D.Term}(h:goodM m)(ht:goodT t):goodM (setT b t m):=h.set ⟨(h.ix _).1,ht⟩
theorem end_good{l:List Int}(h:goodM m):goodM (endS b l m):=by
 have hA:∀(t:D.Term),t.Kind≠2→t.Kind≠3→goodT t:=fun t h1 h2=>⟨.inl h1,.inl h2⟩
 unfold endS;dsimp only
 split
 ·split
  ·exact setT_good (m:=tSS (tSS m)) h (hA _ (by dsimp only;omega) (by dsimp only;omega))
  split
  ·exact setT_good (some_good (m:=tSS m) h) (hA _ (by dsimp only;omega) (by dsimp only;omega))
  ·exact setT_good (m:=tSS m) h (hA _ (by dsimp only;omega) (by dsimp only;omega))
 split
 ·exact setT_good h (hA _ (by dsimp only;omega) (by dsimp only;omega))
 split
 ·rename_i hl
  have hB:∀a:Int,goodT ⟨2,[a],l,0⟩:=fun a=>⟨.inr ⟨by show 1≤1;omega,by show 2≤l.length;omega⟩,.inl (by dsimp only;omega)⟩
  have h1:goodM (sS9 b m):=some_good h
  split
  ·exact setT_good (add_good (m:=tSS (freshS _)) (some_good (m:=tSS _) h1) (goodI2 (op3_rng (tV9 (by omega) _)))) (hB _)
  ·exact setT_good (m:=tSS _) h1 (hB _)
 ·exact setT_good (add_good (m:=freshS _) (const_good (some_good h)) (goodI2 (by decide))) ⟨.inl (by dsimp only;omega),.inr (by show 1≤1;omega)⟩
end
def fgM(nb c:Nat)(m:Mk):Prop:=okM nb c m∧goodM m
theorem fgM.mono{nb c c':Nat}{m:Mk}(h:fgM nb c m)(hc:c≤c'):fgM nb c' m:=⟨h.1.mono hc,h.2⟩
def kzB(b:D.Block):Prop:=b.Ins=[]∧b.Term.Kind=0
theorem kzB.good{b:D.Block}(h:kzB b):goodB b:=⟨fun i hi=>(by rw[h.1] at hi;cases hi),⟨.inl (by rw[h.2];decide),.inl (by rw[h.2];decide)⟩⟩
theorem fg_toS{nb c:Nat}{to:List (List Int)}:∀(k b:Nat) (m:Mk),okM nb c m→(∀x∈m.bs,kzB x)→fgM nb c (toS to k b m)
 | 0,_,_,h,h2=>⟨h,fun x hx=>(h2 x hx).good⟩
 | k+1,b,m,h,h2=>by
  refine fg_toS k (b+1) _ (okM.setb (d:=0) h (Nat.le_refl _)) (fun x hx=>?_)
  rcases List.mem_or_eq_of_mem_set hx with h1|h1
  ·exact h2 x h1
  ·subst h1
   by_cases hj:b<m.bs.length
   ·have h3:=h2 _ (ix_mem hj)
    exact⟨h3.1,h3.2⟩
   ·have:ix m.bs b=default:=by simp[ix,hj]
    rw[this];exact⟨rfl,rfl⟩
theorem fg_addP{nb c b:Nat}{m:Mk}(h:fgM nb c m):fgM nb (c+2) (addP b m) :=
 ⟨okM.setb (d:=1) (fresh_ok h.1) (by dsimp only;rw[List.length_append];simp only[List.length_cons,List.length_nil];exact Nat.le_of_eq (by show _+1+_=_+_+1;omega)),goodM.set (m:=freshS m) h.2 ⟨(h.2.ix b).1,(h.2.ix b).2⟩⟩
theorem fg_phiN{nb b:Nat}:∀(k:Nat) {c:Nat} {m:Mk},fgM nb c m→fgM nb (c+2*k) (phiN b k m)
 | 0,_,_,h=>h
 | k+1,_,_,h=>(fg_phiN k (fg_addP h)).mono (by omega)
theorem fg_take{nb c:Nat}{m:Mk}(h:fgM nb c m):fgM nb (c+1) (tSS m):=⟨tO9 h.1,h.2⟩
theorem fg_phiS{nb:Nat}:∀(k b:Nat) (ph:List Int) {c:Nat} {m:Mk},fgM nb c m→(∀j,0≤ix ph j∧ix ph j≤3)→fgM nb (c+7*k) (phiS k b ph m).2∧∀j,0≤ix (phiS k b ph m).1 j∧ix (phiS k b ph m).1 j≤3
 | 0,_,_,_,_,h,h2=>⟨h,h2⟩
 | k+1,b,ph,c,m,h,h2=>by
  have h3:=phiR_rng (b:=b) (m:=m) h2
  have h4:=h3 b
  have h5:=fg_phiN (b:=b) (ix (phiR b ph m) b).toNat (fg_take h)
  have h6:=fg_phiS k (b+1) (phiR b ph m) (h5.mono (c':=c+7) (by omega)) h3
  exact⟨h6.1.mono (by omega),h6.2⟩
theorem fg_insN{nb b:Nat}(hb:b<nb):∀(k:Nat) {c:Nat} {m:Mk},fgM nb c m→fgM nb (c+60*k) (insN b k m)
 | 0,_,_,h=>h
 | k+1,_,_,h=>(fg_insN hb k ⟨ins3_ok h.1 (by omega),ins_good h.2⟩).mono (by omega)
theorem fg_blk{nb n b c:Nat}{to:List (List Int)}{dn:List Bool}{m:Mk}(h:fgM nb c m)(hn:n≤nb)(hb:b<nb):fgM nb (c+410) (blkM n to b dn m):=by
 have h7:=tV9 (n:=7) (by omega) (lvM n b dn m)
 have hl:fgM nb c (lvM n b dn m):=⟨okM.setlv h.1 (by
  have h1:=lvF_len (f:=fnM m) (dn:=dn) (b:=b) (a:=n) (by show n≤m.bs.length;rw[h.1.2.2.2.2.1];exact hn)
  have h2:=cntT_le m.bs n
  have h3:=h.1.bnd
  have h4:(fnM m).Params=m.par:=rfl
  have h5:(fnM m).Blocks=m.bs:=rfl
  rw[h4,h5] at h1;omega) (Nat.le_refl _),h.2⟩
 have h1:=fg_insN hb (tVV 7 (lvM n b dn m)).toNat (fg_take hl)
 exact⟨(end_ok (l:=ix to b) h1.1 (by omega)).mono (by omega),end_good h1.2⟩
theorem fg_row{nb n:Nat}{to:List (List Int)}(hn:n≤nb):∀(k b:Nat) (dn:List Bool) {c:Nat} {m:Mk},b+k≤nb→fgM nb c m→fgM nb (c+410*k) (rowS n to k b dn m).2
 | 0,_,_,_,_,_,h=>h
 | k+1,b,dn,c,m,hb,h=>by
  unfold rowS;split
  ·exact(fg_row hn k (b+1) _ (by omega) (fg_blk h hn (by omega))).mono (by omega)
  ·exact(fg_row hn k (b+1) _ (by omega) h).mono (by omega)
theorem fg_turn{nb n:Nat}{to:List (List Int)}(hn:n≤nb)(h9:n≤9):∀(k:Nat) (dn:List Bool) {c:Nat} {m:Mk},fgM nb c m→fgM nb (c+3690*k) (turnS n to k dn m).2
 | 0,_,_,_,h=>h
 | k+1,dn,c,m,h=>by
  unfold turnS
  exact(fg_turn hn h9 k _ ((fg_row (to:=to) hn n 0 dn (by omega) h).mono (c':=c+3690) (by omega))).mono (by omega)
theorem fg_inX{nb c:Nat}{p:Int}{m:Mk}(h:fgM nb c m)(hp:p.toNat<nb):fgM nb (c+6) (inX p m).2:=by
 unfold inX;split
 ·exact⟨tO9 (const_ok (word_ok h.1) hp),const_good (m:=wordS m) h.2⟩
 ·exact(fg_take h).mono (by omega)
theorem fg_inS{nb:Nat}{p:List Int}(hp:∀x∈p,0≤x∧x<nb)(h0:0<nb):∀(k i:Nat) (l:List D.In) {c:Nat} {m:Mk},fgM nb c m→fgM nb (c+6*k) (inS p k i l m).2
 | 0,_,_,_,_,h=>h
 | k+1,i,l,c,m,h=>by
  unfold inS
  have h1:(ix p i).toNat<nb:=by
   by_cases hi:i<p.length
   ·have:=hp _ (ix_mem hi);omega
   ·have:ix p i=0:=by simp[ix,hi]
    rw[this];exact h0
  exact(fg_inS hp h0 k (i+1) _ (fg_inX h h1)).mono (by omega)
theorem fg_putIn{nb c b i:Nat}{l:List D.In}{m:Mk}(h:fgM nb c m):fgM nb c (putIn b i l m):=⟨okM.setb (d:=0) h.1 (by dsimp only;rw[List.length_set];exact Nat.le_refl _),h.2.set ⟨(h.2.ix b).1,(h.2.ix b).2⟩⟩
theorem fg_inP{nb b:Nat}{p:List Int}(hp:∀x∈p,0≤x∧x<nb)(h0:0<nb)(h9:p.length≤9):∀(k i:Nat) {c:Nat} {m:Mk},fgM nb c m→fgM nb (c+54*k) (inP p b k i m)
 | 0,_,_,_,h=>h
 | k+1,i,c,m,h=>by
  unfold inP
  exact(fg_inP hp h0 h9 k (i+1) (fg_putIn ((fg_inS hp h0 p.length 0 [] h).mono (c':=c+54) (by omega)))).mono (by omega)
theorem fg_fin{nb:Nat}{ph:List Int}(h0:0<nb)(h9:nb≤9)(hph:∀j,0≤ix ph j∧ix ph j≤3):∀(k b:Nat) {c:Nat} {m:Mk},fgM nb c m→fgM nb (c+200*k) (finS ph k b m)
 | 0,_,_,_,h=>h
 | k+1,b,c,m,h=>by
  unfold finS
  have hl:(fnM m).Blocks.length=nb:=h.1.2.2.2.2.1
  have h1:∀x∈pd3 (fnM m) b,0≤x∧x<nb:=fun x hx=>by have:=preds3_rng x hx;rw[hl] at this;exact this
  have h2:=preds3_len (fnM m) b
  rw[hl] at h2
  have h3:=hph b
  exact(fg_fin h0 h9 hph k (b+1) ((fg_inP h1 h0 (by omega) (b:=b) (ix ph b).toNat 0 h).mono (c':=c+200) (by omega))).mono (by omega)
theorem mdF_fg(s:List Int):fgM (mdN s).toNat 36000 (mdF s):=by
 have h0:okM 0 10 (md0 s):=by
  have h5:=tV9 (n:=5) (by omega) ⟨s,0,0,[],0,[]⟩
  have h1:okM 0 1 (mdP ⟨s,0,0,[],0,[]⟩):=okM.setpar (tO9 (okM0 s)) (by omega) (Nat.le_refl _)
  exact okM.setnx h1 (by show 0≤tVV 5 _∧tVV 5 _≤_;omega) (by omega)
 have h9:=tV9 (n:=9) (by omega) (md0 s)
 have hN:1≤mdN s∧mdN s≤9:=by unfold mdN;omega
 have h1:okM 0 81 (mdT s).2:=targ_ok (tO9 h0) hN.2
 have h2:okM (mdN s).toNat 90 { (mdT s).2 with bs:=List.replicate (mdN s).toNat default }:=okM.mono (okM.setbs h1) (by omega)
 have h3:fgM (mdN s).toNat 90 (mdB s):=fg_toS _ _ _ h2 (fun x hx=>by rw[List.eq_of_mem_replicate hx];exact⟨rfl,rfl⟩)
 have h4:=fg_phiS ((mdN s).toNat-1) 1 (List.replicate (mdN s).toNat 0) h3 (fun j=>by have:=rng_rep (n:=(mdN s).toNat) j;omega)
 have h5:fgM (mdN s).toNat 200 (mdH s).2:=h4.1.mono (by omega)
 have h6:fgM (mdN s).toNat (200+3690*9) (mdD s).2:=(fg_turn (Nat.le_refl _) (by omega) (mdN s).toNat _ h5).mono (by omega)
 exact(fg_fin (by omega) (by omega) h4.2 ((mdN s).toNat-1) 1 h6).mono (by omega)
theorem made3_good(s:List Int):goodF (made3 s):=(mdF_fg s).2
theorem made3_cnt(s:List Int):cntT (made3 s).Blocks≤50000:=Nat.le_trans (mdF_fg s).1.2.2.2.2.2 (by omega)
theorem made3_par(s:List Int):0≤(made3 s).Params∧(made3 s).Params≤4:=(mdF_fg s).1.2.2.1
def made7(s:List Int):D.MFunc:=of7 (made3 s) s.reverse
theorem rev_step{s:List Int}{k:Nat}(h:k<s.length):(s.drop (s.length-k)).reverse++[ix s (s.length-1-k)]=(s.drop (s.length-(k+1))).reverse:=by
 have h1:s.drop (s.length-(k+1))=ix s (s.length-1-k)::s.drop (s.length-k):=by
  rw[drop_ix (l:=s) (i:=s.length-(k+1)) (by omega)]
  rw[show s.length-(k+1)=s.length-1-k by omega,show s.length-1-k+1=s.length-k by omega]
 rw[h1,List.reverse_cons]
theorem E65:Ent Tryz.prog 65:=⟨_,Tryz.func65,by kernel_rfl,by kernel_rfl⟩
theorem E66:Ent Tryz.prog 66:=⟨_,Tryz.func66,by kernel_rfl,by kernel_rfl⟩
set_option maxRecDepth 4000 in
theorem r7made_ct{a0:Value}{s:List Int}:Ts Tryz.prog 37 #[a0] [dv (rL (rI .i64)) a0 s] [] rMFunc vMFunc (made7 s):=by
 refine jenter (args:=[a0]) Tryz.func37 rfl rfl rfl fun w0 X=>?_
 refine jq (jr (jalc J28 Z fun g2=>jn (jx (jq (jr (jlit (r:=(rI .i64)) (l:=[]) U22 I3 (by decide) Z Z Z ln fun g5=>ja Z (jn (jx (jq ?_)))))))))
 refine jq (jr (jm Z (jdq d0 fun q1 w1=>js (jln U22 d0 Z) (js (jsub Z Z (by omega)) (ja Z (jn (jx (jb ?_))))))))
 refine jlp (u3 fun(k:Nat) (vo:Value) (rl:List Int)=>⟨k≤s.length∧rl=(s.drop (s.length-k)).reverse,[dv (rL (rI .i64)) a0 s],[gl X.n (rI .i64) 3 vo rl,bx g2 28 [.int .i64 0,.slice none 0 0]],[(0,a0),(2,.pointer (some ⟨g2,0,none⟩)),(3,vo),(4,.int .i64 ((s.length:Int)-1-↑k))],s.length-k⟩) (0,(.slice (some ⟨g5,0,none⟩) 0 0),[]) ⟨Nat.zero_le _,by simp⟩ (dc d0 dn) (kd kn) ⟨Z,Z,Z,eqI (by omega),trivial⟩ ?_
 rintro⟨k,vo,rl⟩;dsimp only[u3];rintro⟨hk,hrl⟩
 refine cgo k0 fun w2=>?_
 have hrn:rl.length=k:=by rw[hrl];simp;omega
 refine jq (jq (jr (jm Z (js (jgeq Z Z) (jn (jx ?_))))))
 refine jif Z (fun hc1=>?_) (fun hc1=>?_)
 refine jsk (jx (jq (jb (jr (jm Z (jm Z (jm Z (js (jix (i:=(s.length-1-k)) U22 Z3 d0 Z Z (by omega) (by omega)) (js (jlI (dix d0 (s.length-1-k) (by omega)) O3 Z) (japv U22 I3 (by decide) Z Z k0 Z (wI (wad (dix d0 (s.length-1-k) (by omega)))) (by omega) (fun _=>Z) fun v19 _ w3=>ja Z ?_))))))))))
 refine jn (jbn (jx (jr (jm Z (js (jsub Z Z (by omega)) (ja Z (jn ?_)))))))
 exact jag (k+1,v19,rl++[ix s (s.length-1-k)]) ⟨by dsimp only;omega,by dsimp only;rw[←rev_step (by omega),hrl]⟩ (dc d0 dn) (kd kn) ⟨Z,Z,Z,eqI (by omega),trivial⟩
 refine jex (jtx (jtx (jbh (jx (jq (jr (jm Z (jcs E66 Z Z r3made_ct (dc d0 dn) kn fun c21=>jfz k0 (by omega) (jm Z (jcs E65 Z Z (r7of_ct (by first|exact made3_good _|exact made3_cnt _|(have h9:=made3_par s;omega)|omega) (by first|exact made3_good _|exact made3_cnt _|(have h9:=made3_par s;omega)|omega) (by first|exact made3_good _|exact made3_cnt _|(have h9:=made3_par s;omega)|omega)) (dc d1 (dc d0 dn)) kn fun c23=>?_))))))))))
 refine jdq (rMFunc.cB d0) fun q7 w7=>jsta k0 Z28 Z Z Z ⟨Z,w7.one,trivial⟩ (saf Z) (jn (jx (jrt ?_)))
 exact jrcA (val:=vMFunc) (b:=of7 (made3 s) rl) (c:=c23) Z Z k0 A28 Z28 Z (by unfold made7;rw[hrl,show s.length-k=0 by omega];rfl) d0
end Go.Proofs.YtehhjlkmbdhckaaGreat
namespace Go.JE
variable{P:Program}{D D0:List Dt}{L M:List Res}{e:Env}{X:Cx}{n:Fs}{w0:World}{Q:Exit→Act→World→Prop}
section
variable{ops:Array Oper}{op:Op}{d:Nat}{ty:TypeId}{pos:String}{af:Array Edge}{rest:List Oper}{f:FuncId}{g:Operand}{xs:List Operand}{vs cs:List Value}{ts:Array TypeId}
theorem jgk{j t:Nat}{want:Bool}{u:Value}(hj:(ops[j]?).bind (·.dst)=some t)(hu:lk e t=some u)(hB:Gd u want true)(h:LH P n w0 ops Q X D L e (⟨some d,op,ty,pos,af,none⟩::rest))(ht:Nat.blt t n.sz=true:=by rfl):LH P n w0 ops Q X D L e (⟨some d,op,ty,pos,af,some (j,want)⟩::rest):=fun F H hp a w hf hw=>by
 have hwt:=wanted_gd (o:=⟨some d,op,ty,pos,af,some (j,want)⟩) rfl hj ht hf hu hB
 have h1:=h F H hp a w hf hw
 unfold wpList at h1 ⊢
 rw[if_pos hwt]
 rw[if_pos (by simp[Region.wanted])] at h1
 exact h1
instance:Inhabited Value:=⟨undef⟩
end
section
open Go
variable{fn:Func}{m:Nat}{ι:Type}{val:ι→Value}{dr:ι→List Dt}{lr:Nat→ι→List Res}
end
end Go.JE
namespace Go.Proofs.YtehhjlkmbdhckaaGreat
open Go.JE
def oneM(p:Int)(e:D.End)(l:List D.Mach):D.MFunc:=⟨p,[⟨[],l,e⟩]⟩
attribute [local irreducible] runM funcM oneM
end Go.Proofs.YtehhjlkmbdhckaaGreat
namespace Go.Proofs.YtehhjlkmbdhckaaGreat
open Go.JE
end Go.Proofs.YtehhjlkmbdhckaaGreat
namespace Go.JE
open Go
variable{P:Program}{D D0:List Dt}{L M:List Res}{e:Env}{X:Cx}{n:Fs}{w0:World}{Q:Exit→Act→World→Prop}
section
variable{α:Type}{r:Rp α}{F:PH}{H:Heap}{x y:Operand}{T E:TypeId}{z:Value}{bytes B:Nat}{w2:Value}{l m:List α}{N N2:Nat}{ad:Addr}
end
section
variable{α:Type}{r:Rp α}{ops:Array Oper}{d:Nat}{ty:TypeId}{pos:String}{af:Array Edge}{rest:List Oper}{x y hx' mx':Operand}{T E:TypeId}{z v w2:Value}{bytes:Nat}{l m:List α}{k k':IntKind}{I J:Int}{hi N:Nat}
end
section
variable{α:Type}{r:Rp α}{ops:Array Oper}{d:Nat}{ty:TypeId}{pos:String}{af:Array Edge}{rest:List Oper}{x y:Operand}{T E:TypeId}{z v w2:Value}{bytes:Nat}{l m:List α}{N:Nat}
end
section
variable{α:Type}{r:Rp α}{x hx' mx':Operand}{T E:TypeId}{v:Value}{l:List α}{k k':IntKind}{I J:Int}{hi N:Nat}
end
end Go.JE
namespace Go.Proofs.YtehhjlkmbdhckaaGreat
open Go.JE
theorem ixd_set{l:List Bool}{i j:Nat}:ix (l.set j true) i=true→i=j∨ix l i=true:=by
 intro h
 by_cases hj:j<l.length
 ·rw[ix_set hj] at h;split at h;(· left;assumption);right;exact h
 ·rw[List.set_eq_of_length_le (by omega)] at h;exact .inr h
theorem ix_up{l:List Bool}{i j:Nat}(h:ix l i=true):ix (l.set j true) i=true:=by
 by_cases hj:j<l.length
 ·rw[ix_set hj];split;rfl;exact h
 ·rw[List.set_eq_of_length_le (by omega)];exact h
section
variable{w:Int}
theorem b3In_mono:∀(ts:List Int) (se:List Bool) (q:List Int) (j:Nat),ix se j=true→ix (b3In w se q ts).1 j=true
 | [],_,_,_,h=>h
 | t::ts,se,q,j,h=>by rw[b3In];split;exact b3In_mono ts _ _ j (ix_up h);exact b3In_mono ts _ _ j h
theorem b3In_app:∀(ts:List Int) (se:List Bool) (q:List Int),∃u,(b3In w se q ts).2=q++u
 | [],_,q=>⟨[],by simp[b3In]⟩
 | t::ts,se,q=>by
  rw[b3In];split
  ·obtain⟨u,h⟩:=b3In_app ts (se.set t.toNat true) (q++[t]);exact⟨t::u,by rw[h];simp⟩
  ·exact b3In_app ts se q
theorem b3In_cl:∀(ts:List Int) (se:List Bool) (q:List Int),∀t∈ts,0≤t→t<se.length→t≠w→ix (b3In w se q ts).1 t.toNat=true
 | [],_,_,t,h,_,_,_=>by cases h
 | y::ts,se,q,t,h,h0,h1,h2=>by
  rw[b3In]
  rcases List.mem_cons.1 h with rfl|h
  ·split
   ·exact b3In_mono ts _ _ _ (by rw[ix_set (by omega),if_pos rfl])
   ·rename_i h9
    refine b3In_mono ts _ _ _ ?_
    cases h8:ix se t.toNat with
    | true=>rfl
    | false=>exact absurd ⟨⟨h0,h1⟩,h8,h2⟩ h9
  ·split
   ·exact b3In_cl ts _ _ t h h0 (by simpa using h1) h2
   ·exact b3In_cl ts _ _ t h h0 h1 h2
theorem b3In_q:∀(ts:List Int) (se:List Bool) (q:List Int),(∀j:Nat,ix se j=true→(j:Int)∈q)→∀j:Nat,ix (b3In w se q ts).1 j=true→(j:Int)∈(b3In w se q ts).2
 | [],_,_,h,j,hj=>h j hj
 | t::ts,se,q,h,j,hj=>by
  rw[b3In] at hj ⊢
  split at hj
  ·rename_i h9
   rw[if_pos h9]
   refine b3In_q ts _ _ (fun i hi=>?_) j hj
   rcases ixd_set hi with e|e
   ·rw[e];simp;right;omega
   ·simp[h i e]
  ·rename_i h9
   rw[if_neg h9];exact b3In_q ts _ _ h j hj
theorem b3In_cnt:∀(ts:List Int) (se:List Bool) (q:List Int),(b3In w se q ts).2.length+cnt3 (b3In w se q ts).1=q.length+cnt3 se
 | [],_,_=>rfl
 | t::ts,se,q=>by
  rw[b3In];split
  ·rename_i h9
   rw[b3In_cnt ts]
   have:=cnt3_set (l:=se) (i:=t.toNat) (by omega) h9.2.1
   rw[List.length_append];simp;omega
  ·exact b3In_cnt ts _ _
end
theorem b3_cl{bs:List D.Block}{w:Int}:∀(f:Nat) (se:List Bool) (q:List Int) (i:Nat),bs.length≤f+i→se.length=bs.length→q.length+cnt3 se≤bs.length →
  (∀j:Nat,ix se j=true→(j:Int)∈q)→(∀j,j<i→j<q.length→∀t∈(ix bs (ix q j).toNat).Term.To,0≤t→t<bs.length→t≠w→ix se t.toNat=true) →
  (∀j,ix se j=true→ix (b3 bs w f se q i) j=true)∧∀x:Nat,ix (b3 bs w f se q i) x=true→∀t∈(ix bs x).Term.To,0≤t→t<bs.length→t≠w→ix (b3 bs w f se q i) t.toNat=true
 | 0,se,q,i,hf,hl,hc,hq,hp=>by
  refine⟨fun j h=>h,fun x hx t ht h0 h1 h2=>?_⟩
  obtain⟨j,hj,e⟩:=List.getElem_of_mem (hq x hx)
  have e2:ix q j=x:=by rw[ix_eq hj];exact e
  exact hp j (by omega) hj t (by rw[e2];simpa using ht) h0 h1 h2
 | f+1,se,q,i,hf,hl,hc,hq,hp=>by
  rw[b3]
  by_cases hi:i<q.length
  ·rw[if_pos hi]
   obtain⟨u,hu⟩:=b3In_app (w:=w) (ix bs (ix q i).toNat).Term.To se q
   have hcn:=b3In_cnt (w:=w) (ix bs (ix q i).toNat).Term.To se q
   obtain⟨a,b⟩:=b3_cl (bs:=bs) (w:=w) f (b3In w se q (ix bs (ix q i).toNat).Term.To).1 (b3In w se q (ix bs (ix q i).toNat).Term.To).2 (i+1) (by omega) (by rw[b3In_len];exact hl) (by omega)
    (b3In_q _ _ _ hq) (fun j hj hj2 t ht h0 h1 h2=>by
     rw[hu] at ht
     rcases Nat.lt_or_ge j i with h|h
     ·rw[ix_app (l:=q) (i:=j) (by omega)] at ht
      exact b3In_mono _ _ _ _ (hp j h (by omega) t ht h0 h1 h2)
     ·rw[show j=i by omega,ix_app hi] at ht
      exact b3In_cl _ _ _ t ht h0 (by omega) h2)
   exact⟨fun j hj=>a j (b3In_mono _ _ _ _ hj),b⟩
  ·rw[if_neg hi]
   refine⟨fun j h=>h,fun x hx t ht h0 h1 h2=>?_⟩
   obtain⟨j,hj,e⟩:=List.getElem_of_mem (hq x hx)
   have e2:ix q j=x:=by rw[ix_eq hj];exact e
   exact hp j (by omega) hj t (by rw[e2];simpa using ht) h0 h1 h2
theorem reach3_cl{f:D.Func}{w:Int}(hw:w≠0)(hn:0<f.Blocks.length):ix (reach3 f w) 0=true∧∀x:Nat,ix (reach3 f w) x=true→∀t∈(ix f.Blocks x).Term.To,0≤t→t<f.Blocks.length→t≠w→ix (reach3 f w) t.toNat=true:=by
 unfold reach3
 rw[if_pos ⟨hw,hn⟩]
 have h0:ix ((List.replicate f.Blocks.length false).set 0 true) 0=true:=by rw[ix_set (by simpa using hn),if_pos rfl]
 obtain⟨a,b⟩:=b3_cl (bs:=f.Blocks) (w:=w) f.Blocks.length ((List.replicate f.Blocks.length false).set 0 true) [0] 0 (by omega) (by simp)
  (by have:=cnt3_set (l:=List.replicate f.Blocks.length false) (i:=0) (by simpa using hn) (ix_rep _ _);rw[cnt3_rep] at this;simp;omega)
  (fun j hj=>by rcases ixd_set hj with e|e;(· subst e;simp);rw[ix_rep] at e;cases e) (fun j hj=>by omega)
 exact⟨a 0 h0,b⟩
def Parent(n:Nat)(to:Nat→List Int):Prop:=∀b:Nat,1≤b→b<n→∃p,p<b∧(b:Int)∈to p
theorem reach3_low{f:D.Func}(hP:Parent f.Blocks.length (fun j=>(ix f.Blocks j).Term.To)){a:Nat}:∀b:Nat,b<a→b<f.Blocks.length→ix (reach3 f (a:Int)) b=true:=by
 intro b
 induction b using Nat.strongRecOn with
 | ind b ih =>
  intro hb hn
  obtain⟨h0,hc⟩:=reach3_cl (f:=f) (w:=(a:Int)) (by omega) (by omega)
  rcases Nat.eq_zero_or_pos b with e|e
  ·subst e;exact h0
  ·obtain⟨p,hp,hm⟩:=hP b e hn
   have:=hc p (ih p hp (by omega) (by omega)) (b:Int) hm (by omega) (by omega) (by omega)
   simpa[reachedM] using this
theorem bfsIn_mono:∀(ts:List Int) (se:List Bool) (q:List Int) (j:Nat),ix se j=true→ix (bfsIn se q ts).1 j=true
 | [],_,_,_,h=>h
 | t::ts,se,q,j,h=>by rw[bfsIn];split;exact bfsIn_mono ts _ _ j h;exact bfsIn_mono ts _ _ j (ix_up h)
theorem bfsIn_app:∀(ts:List Int) (se:List Bool) (q:List Int),∃u,(bfsIn se q ts).2=q++u
 | [],_,q=>⟨[],by simp[bfsIn]⟩
 | t::ts,se,q=>by
  rw[bfsIn];split
  ·exact bfsIn_app ts se q
  ·obtain⟨u,h⟩:=bfsIn_app ts (se.set t.toNat true) (q++[t]);exact⟨t::u,by rw[h];simp⟩
theorem bfsIn_cl:∀(ts:List Int) (se:List Bool) (q:List Int),∀t∈ts,t.toNat<se.length→ix (bfsIn se q ts).1 t.toNat=true
 | [],_,_,t,h,_=>by cases h
 | y::ts,se,q,t,h,h1=>by
  rw[bfsIn]
  rcases List.mem_cons.1 h with rfl|h
  ·split
   ·rename_i h9;exact bfsIn_mono ts _ _ _ h9
   ·exact bfsIn_mono ts _ _ _ (by rw[ix_set h1,if_pos rfl])
  ·split
   ·exact bfsIn_cl ts _ _ t h h1
   ·exact bfsIn_cl ts _ _ t h (by simpa using h1)
theorem bfsIn_q(A:Nat→Prop):∀(ts:List Int) (se:List Bool) (q:List Int),(∀t∈ts,0≤t)→(∀j:Nat,ix se j=true→A j∨(j:Int)∈q)→∀j:Nat,ix (bfsIn se q ts).1 j=true→A j∨(j:Int)∈(bfsIn se q ts).2
 | [],_,_,_,h,j,hj=>h j hj
 | t::ts,se,q,h0,h,j,hj=>by
  rw[bfsIn] at hj ⊢
  split at hj
  ·rename_i h9;rw[if_pos h9];exact bfsIn_q A ts _ _ (fun t ht=>h0 t (by simp[ht])) h j hj
  ·rename_i h9
   rw[if_neg h9]
   refine bfsIn_q A ts _ _ (fun t ht=>h0 t (by simp[ht])) (fun i hi=>?_) j hj
   rcases ixd_set hi with e|e
   ·right;rw[e];have:=h0 t (by simp);simp;right;omega
   ·rcases h i e with h8|h8
    ·exact .inl h8
    ·right;simp[h8]
theorem bfsIn_cnt:∀(ts:List Int) (se:List Bool) (q:List Int),(∀t∈ts,t.toNat<se.length)→(bfsIn se q ts).2.length+cntF (bfsIn se q ts).1=q.length+cntF se∧(bfsIn se q ts).1.length=se.length
 | [],_,_,_=>⟨rfl,rfl⟩
 | t::ts,se,q,h=>by
  rw[bfsIn];split
  ·exact bfsIn_cnt ts _ _ (fun t ht=>h t (by simp[ht]))
  ·rename_i h9
   obtain⟨a,b⟩:=bfsIn_cnt ts (se.set t.toNat true) (q++[t]) (fun t ht=>by simpa using h t (by simp[ht]))
   have:=cntF_set (l:=se) (i:=t.toNat) (h t (by simp)) h9
   refine⟨?_,by rw[b];simp⟩
   rw[a,List.length_append];simp;omega
theorem bfs_cl{bs:List D.MBlock}(hT:∀x∈bs,∀t∈x.End.To,1≤t∧t<bs.length):∀(f:Nat) (se:List Bool) (q:List Int),se.length=bs.length→q.length+cntF se≤f→(∀x∈q,0≤x∧x<bs.length) →
  (∀j:Nat,ix se j=true→(∀t∈(ix bs j).End.To,ix se t.toNat=true)∨(j:Int)∈q) →
  (∀j,ix se j=true→ix (bfs bs f se q) j=true)∧∀x:Nat,ix (bfs bs f se q) x=true→∀t∈(ix bs x).End.To,ix (bfs bs f se q) t.toNat=true
 | 0,se,q,hl,hc,hr,hq=>by
  have:q=[]:=List.eq_nil_of_length_eq_zero (by omega)
  subst this
  exact⟨fun j h=>h,fun x hx t ht=>(hq x hx).elim (fun h=>h t ht) (fun h=>by cases h)⟩
 | f+1,se,[],hl,hc,hr,hq=>⟨fun j h=>h,fun x hx t ht=>(hq x hx).elim (fun h=>h t ht) (fun h=>by cases h)⟩
 | f+1,se,x::q,hl,hc,hr,hq=>by
  rw[bfs]
  have hx:=hr x (by simp)
  have hT':∀t∈(ix bs x.toNat).End.To,1≤t∧t<bs.length:=hT _ (ix_mem (by omega))
  obtain⟨u,hu⟩:=bfsIn_app (ix bs x.toNat).End.To se (x::q)
  obtain⟨hcn,hln⟩:=bfsIn_cnt (ix bs x.toNat).End.To se (x::q) (fun t ht=>by have:=hT' t ht;omega)
  have hd:(bfsIn se (x::q) (ix bs x.toNat).End.To).2.drop 1=q++u:=by rw[hu];rfl
  have hmem:∀y∈q++u,0≤y∧y<bs.length:=by
   intro y hy
   have:∀(ts:List Int) (se:List Bool) (q:List Int),(∀y∈q,0≤y∧y<bs.length)→(∀t∈ts,1≤t∧t<(bs.length:Int))→∀y∈(bfsIn se q ts).2,0≤y∧y<bs.length:=by
    intro ts
    induction ts with
    | nil=>intro se q h _ y hy;exact h y hy
    | cons t ts ih =>
     intro se q h h2 y hy
     rw[bfsIn] at hy;split at hy
     ·exact ih _ _ h (fun t ht=>h2 t (by simp[ht])) y hy
     ·refine ih _ _ (fun z hz=>?_) (fun t ht=>h2 t (by simp[ht])) y hy
      rcases List.mem_append.1 hz with hz|hz
      ·exact h z hz
      ·simp at hz;subst hz;have:=h2 z (by simp);omega
   exact this _ se (x::q) hr hT' y (by rw[hu];simp at hy ⊢;exact .inr hy)
  obtain⟨a,b⟩:=bfs_cl (bs:=bs) hT f (bfsIn se (x::q) (ix bs x.toNat).End.To).1 ((bfsIn se (x::q) (ix bs x.toNat).End.To).2.drop 1) (by omega)
   (by rw[hd];rw[hu] at hcn;simp at hcn hc ⊢;omega) (by rw[hd];exact hmem) (fun j hj=>by
    rw[hd]
    by_cases e:(j:Int)=x
    ·left;intro t ht
     rw[show j=x.toNat by omega] at ht
     exact bfsIn_cl _ _ _ t ht (by have:=hT' t ht;omega)
    ·rcases bfsIn_q (fun j=>∀t∈(ix bs j).End.To,ix se t.toNat=true) (ix bs x.toNat).End.To se (x::q) (fun t ht=>by have:=hT' t ht;omega) hq j hj with h|h
     ·left;intro t ht;exact bfsIn_mono _ _ _ _ (h t ht)
     ·right;rw[hu] at h;simp at h ⊢;rcases h with h|h|h
      ·exact absurd h e
      ·exact .inl h
      ·exact .inr h)
  exact⟨fun j hj=>a j (bfsIn_mono _ _ _ _ hj),b⟩
theorem reachedM_all{bs:List D.MBlock}(hn:0<bs.length)(hT:∀x∈bs,∀t∈x.End.To,1≤t∧t<bs.length)(hP:Parent bs.length (fun j=>(ix bs j).End.To)):∀b:Nat,b<bs.length→ix (reachedM bs) b=true:=by
 have h0:ix ((List.replicate bs.length false).set 0 true) 0=true:=by rw[ix_set (by simpa using hn),if_pos rfl]
 obtain⟨a,c⟩:=bfs_cl hT bs.length ((List.replicate bs.length false).set 0 true) [0] (by simp)
  (by have:=cntF_set (l:=List.replicate bs.length false) (i:=0) (by simpa using hn) (by rw[ix_rep];decide);have h2:cntF (List.replicate bs.length false)=bs.length:=cnt3_rep _;simp;omega)
  (by simp;omega) (fun j hj=>by rcases ixd_set hj with e|e;(· subst e;right;simp);rw[ix_rep] at e;cases e)
 intro b
 induction b using Nat.strongRecOn with
 | ind b ih =>
  intro hb
  rcases Nat.eq_zero_or_pos b with e|e
  ·subst e;exact a 0 h0
  ·obtain⟨p,hp,hm⟩:=hP b e hb
   have:=c p (ih p hp (by omega)) (b:Int) hm
   simpa[reachedM] using this
theorem bfs_len{bs:List D.MBlock}(hT:∀x∈bs,∀t∈x.End.To,1≤t∧t<bs.length):∀(f:Nat) (se:List Bool) (q:List Int),(bfs bs f se q).length=se.length
 | 0,_,_=>rfl
 | f+1,se,[]=>rfl
 | f+1,se,x::q=>by
  rw[bfs,bfs_len hT f]
  have:∀(ts:List Int) (se:List Bool) (q:List Int),(bfsIn se q ts).1.length=se.length:=by
   intro ts
   induction ts with
   | nil=>intro se q;rfl
   | cons t ts ih=>intro se q;rw[bfsIn];split;exact ih _ _;rw[ih];simp
  exact this _ _ _
theorem reachedM_len(bs:List D.MBlock)(hT:∀x∈bs,∀t∈x.End.To,1≤t∧t<bs.length):(reachedM bs).length≤bs.length:=by
 unfold reachedM;rw[bfs_len hT];simp
def TR(n:Nat)(L:Nat)(to:List (List Int)):Prop:=to.length=n∧(∀j,(ix to j).length≤L)∧∀j,∀t∈ix to j,1≤t∧t<n
def PB(b:Int)(to:List (List Int)):Prop:=∀c:Nat,1≤c→(c:Int)<b→∃p,p<c∧(c:Int)∈ix to p
theorem TR.mono{n L M:Nat}{to:List (List Int)}(h:TR n L to)(hl:L≤M):TR n M to:=⟨h.1,fun j=>Nat.le_trans (h.2.1 j) hl,h.2.2⟩
theorem ix_put{to:List (List Int)}{p:Nat}{x:Int}(hp:p<to.length)(j:Nat):ix (to.set p (to.getD p []++[x])) j=if j=p then ix to p++[x] else ix to j:=by
 rw[ix_set hp];rfl
theorem TR.put{n L p:Nat}{to:List (List Int)}{x:Int}(h:TR n L to)(hp:p<n)(hx:1≤x∧x<n):TR n (L+1) (to.set p (to.getD p []++[x])):=by
 have hp':p<to.length:=by rw[h.1];exact hp
 refine⟨by rw[List.length_set];exact h.1,fun j=>?_,fun j t ht=>?_⟩
 ·rw[ix_put hp'];split
  ·rw[List.length_append];have:=h.2.1 p;simp;omega
  ·have:=h.2.1 j;omega
 ·rw[ix_put hp'] at ht;split at ht
  ·rcases List.mem_append.1 ht with h1|h1
   ·exact h.2.2 p t h1
   ·simp at h1;subst h1;exact hx
  ·exact h.2.2 j t ht
theorem mem_put{to:List (List Int)}{p j:Nat}{x y:Int}(hp:p<to.length)(h:y∈ix to j):y∈ix (to.set p (to.getD p []++[x])) j:=by
 rw[ix_put hp];split
 ·rename_i e;subst e;simp[h]
 ·exact h
theorem PB.put{to:List (List Int)}{b:Int}{p:Nat}{x:Int}(h:PB b to)(hp:p<to.length):PB b (to.set p (to.getD p []++[x])):=fun c h1 h2=>by
 obtain⟨q,h3,h4⟩:=h c h1 h2
 exact⟨q,h3,mem_put hp h4⟩
theorem PB.next{to:List (List Int)}{b:Int}{p:Nat}(h:PB b to)(hp:p<to.length)(hb:(p:Int)<b):PB (b+1) (to.set p (to.getD p []++[b])):=fun c h1 h2=>by
 by_cases e:(c:Int)=b
 ·refine⟨p,by omega,?_⟩
  rw[ix_put hp,if_pos rfl,e];simp
 ·exact h.put hp c h1 (by omega)
theorem tgA_tr{n:Nat}:∀(k L:Nat) (b:Int) (to:List (List Int)) (m:Mk),1≤b→b+k=n→TR n L to→PB b to→TR n (L+k) (tgA k b to m).1∧PB n (tgA k b to m).1
 | 0,L,b,to,m,_,hb,h,hp=>⟨h,by rw[tgA,←hb];simpa using hp⟩
 | k+1,L,b,to,m,h1,hb,h,hp=>by
  have hr:=tV9 (n:=b) (by omega) (tSS m)
  rw[tgA]
  split
  ·have hq:(tVV b (tSS m)).toNat<to.length:=by rw[h.1];omega
   obtain⟨a,c⟩:=tgA_tr k (L+1) (b+1) _ (tSS (tSS m)) (by omega) (by omega) (h.put (p:=(tVV b (tSS m)).toNat) (x:=b) (by omega) (by omega)) (hp.next hq (by omega))
   exact⟨a.mono (by omega),c⟩
  ·have hq:(b-1).toNat<to.length:=by rw[h.1];omega
   obtain⟨a,c⟩:=tgA_tr k (L+1) (b+1) _ (tSS m) (by omega) (by omega) (h.put (p:=(b-1).toNat) (x:=b) (by omega) (by omega)) (hp.next hq (by omega))
   exact⟨a.mono (by omega),c⟩
theorem tgX_rng{n:Nat}{b:Int}(m:Mk)(hn:1<n)(hb:0≤b):1≤(tgX n b m).1∧(tgX n b m).1<n:=by
 have hr:=tV9 (n:=(n:Int)-1) (by omega) m
 unfold tgX
 repeat' split
 all_goals (dsimp only;omega)
theorem tgI_tr{n:Nat}{b:Int}(hn:1<n)(hb:0≤b∧b<n):∀(k L:Nat) (to:List (List Int)) (m:Mk),TR n L to→PB n to→TR n (L+k) (tgI n b k to m).1∧PB n (tgI n b k to m).1
 | 0,L,to,m,h,hp=>⟨h,hp⟩
 | k+1,L,to,m,h,hp=>by
  rw[tgI]
  obtain⟨a,c⟩:=tgI_tr hn hb k (L+1) _ (tgX n b m).2 (h.put (p:=b.toNat) (x:=(tgX n b m).1) (by omega) (tgX_rng m hn hb.1)) (hp.put (by rw[h.1];omega))
  exact⟨a.mono (by omega),c⟩
theorem tgB_tr{n:Nat}:∀(k L:Nat) (b:Int) (to:List (List Int)) (m:Mk),0≤b→b+k=n→TR n L to→PB n to→TR n (L+2*k) (tgB n k b to m).1∧PB n (tgB n k b to m).1
 | 0,L,b,to,m,_,_,h,hp=>⟨h,hp⟩
 | k+1,L,b,to,m,h0,hb,h,hp=>by
  rw[tgB]
  have hr:=tV9 (n:=6) (by omega) m
  have h1:TR n (L+2) (tgI n b (if 1<(n:Int) then (tVV 6 m-3).toNat else 0) to (tSS m)).1∧PB n (tgI n b (if 1<(n:Int) then (tVV 6 m-3).toNat else 0) to (tSS m)).1:=by
   by_cases hn:1<(n:Int)
   ·rw[if_pos hn]
    obtain⟨a,c⟩:=tgI_tr (n:=n) (b:=b) (by omega) (by omega) (tVV 6 m-3).toNat L to (tSS m) h hp
    exact⟨a.mono (by omega),c⟩
   ·rw[if_neg hn];exact⟨h.mono (by omega),hp⟩
  obtain⟨a,c⟩:=tgB_tr k (L+2) (b+1) _ (tgI n b (if 1<(n:Int) then (tVV 6 m-3).toNat else 0) to (tSS m)).2 (by omega) (by omega) h1.1 h1.2
  exact⟨a.mono (by omega),c⟩
theorem targM_tr{n:Nat}(hn:1≤n∧n≤9)(m:Mk):TR n 30 (targM n m).1∧PB n (targM n m).1:=by
 have h0:TR n 0 (List.replicate n []):=⟨by simp,fun j=>by have:=rows_rep (n:=n) (B:=0) j;exact this,fun j t ht=>by
  have h9:=rows_rep (n:=n) (B:=0) j
  have h8:ix (List.replicate n ([]:List Int)) j=[]:=List.eq_nil_of_length_eq_zero (by have:(ix (List.replicate n ([]:List Int)) j).length≤0:=h9;omega)
  rw[h8] at ht;cases ht⟩
 have h1:=tgA_tr (n:=n) (n-1) 0 1 (List.replicate n []) m (by omega) (by omega) h0 (fun c h1 h2=>by omega)
 unfold targM targA
 simp only[Int.toNat_natCast]
 obtain⟨a,c⟩:=tgB_tr (n:=n) n (0+(n-1)) 0 _ (tgA (n-1) 1 (List.replicate n []) m).2 (by omega) (by omega) h1.1 h1.2
 exact⟨a.mono (by omega),c⟩
def gI(n:Int)(i:D.Ins):Prop:=(1≤i.Op∧i.Op≤18)∧(i.Op=1∨i.Op=17∨(i.Op=15∧1≤i.Args.length)∨2≤i.Args.length)∧i.Args.length≤4∧(∀a∈i.Args,0≤a∧a<n)∧(∀d∈makes3 i,0≤d∧d<n)∧(i.Op=18→i.Dst≠i.Two)
def gT(n:Int)(t:D.Term):Prop:=(1≤t.Kind∧t.Kind≤5)∧(∀a∈t.Args,0≤a∧a<n)∧(t.Kind=1→t.To.length=1)∧(t.Kind=2→t.To.length=2∧1≤t.Args.length)∧(t.Kind=3→2≤t.To.length∧t.To.length≤65∧1≤t.Args.length)∧(4≤t.Kind→t.To=[])
def gP(n:Int)(p:D.Phi):Prop:=(0≤p.Dst∧p.Dst<n)∧∀x∈p.In,0≤x.Val∧x.Val<n
def gB(n:Int)(x:D.Block):Prop:=(∀i∈x.Ins,gI n i)∧(∀p∈x.Phis,gP n p)∧(x.Term.Kind=0∨gT n x.Term)∧(x.Phis.map (·.Dst)).Nodup
def cI:List D.Block→Nat
 | []=>0
 | x::l=>x.Ins.length+cI l
theorem cI_set:∀{l:List D.Block} {j d:Nat} {b:D.Block},b.Ins.length≤(ix l j).Ins.length+d→cI (l.set j b)≤cI l+d
 | [],_,_,_,_=>by simp[cI]
 | x::l,0,_,b,h=>by rw[ix_zero] at h;rw[List.set_cons_zero,cI,cI];omega
 | x::l,j+1,d,b,h=>by rw[ix_cons] at h;rw[List.set_cons_succ,cI,cI];have:=cI_set (l:=l) h;omega
section
variable{n n':Int}
theorem gI.mono{i:D.Ins}(h:gI n i)(hn:n≤n'):gI n' i:=⟨h.1,h.2.1,h.2.2.1,fun a ha=>by have:=h.2.2.2.1 a ha;omega,fun a ha=>by have:=h.2.2.2.2.1 a ha;omega,h.2.2.2.2.2⟩
theorem gT.mono{t:D.Term}(h:gT n t)(hn:n≤n'):gT n' t:=⟨h.1,fun a ha=>by have:=h.2.1 a ha;omega,h.2.2⟩
theorem gP.mono{p:D.Phi}(h:gP n p)(hn:n≤n'):gP n' p:=⟨by have:=h.1;omega,fun x hx=>by have:=h.2 x hx;omega⟩
theorem gB.mono{x:D.Block}(h:gB n x)(hn:n≤n'):gB n' x:=⟨fun i hi=>(h.1 i hi).mono hn,fun i hi=>(h.2.1 i hi).mono hn,h.2.2.1.imp id (fun h=>h.mono hn),h.2.2.2⟩
end
structure RI(n b c:Nat)(to:List (List Int))(m:Mk):Prop where
 len:m.bs.length=n
 par:0≤m.par∧m.par≤4
 nx:m.par≤m.nx∧m.nx≤c
 cnt:cI m.bs≤c
 lv:∀x∈m.lv,0≤x∧x<m.nx
 blk:∀j,j<n→gB m.nx (ix m.bs j)
 tos:∀j,j<n→(ix m.bs j).Term.To=ix to j
 kd:∀j,j<b→j<n→(ix m.bs j).Term.Kind≠0
section
variable{n b c d:Nat}{to:List (List Int)}{m:Mk}
theorem RI.mono(h:RI n b c to m)(hc:c≤d):RI n b d to m:=⟨h.len,h.par,by have:=h.nx;omega,by have:=h.cnt;omega,h.lv,h.blk,h.tos,h.kd⟩
theorem RI.take(h:RI n b c to m):RI n b c to (tSS m):=⟨h.len,h.par,h.nx,h.cnt,h.lv,h.blk,h.tos,h.kd⟩
theorem RI.fresh(h:RI n b c to m):RI n b (c+1) to (freshS m) where
 len:=h.len
 par:=h.par
 nx:=by have:=h.nx;show m.par≤m.nx+1∧m.nx+1≤_;omega
 cnt:=by have:=h.cnt;show cI m.bs≤_;omega
 lv:=fun x hx=>by have:=h.lv x hx;show 0≤x∧x<m.nx+1;omega
 blk:=fun j hj=>(h.blk j hj).mono (by show m.nx≤m.nx+1;omega)
 tos:=h.tos
 kd:=h.kd
theorem RI.add{i:D.Ins}{j:Int}(h:RI n b c to m)(hj:0≤j∧j<n)(hi:gI m.nx i):RI n b (c+1) to (addS j i m) where
 len:=by show(m.bs.set _ _).length=n;rw[List.length_set];exact h.len
 par:=h.par
 nx:=by have:=h.nx;show m.par≤m.nx∧m.nx≤_;omega
 cnt:=by
  have h1:=cI_set (l:=m.bs) (j:=j.toNat) (d:=1) (b:={ (ix m.bs j.toNat) with Ins:=(ix m.bs j.toNat).Ins++[i] }) (by dsimp only;rw[List.length_append];exact Nat.le_refl _)
  have h2:=h.cnt
  show cI (m.bs.set _ _)≤_;omega
 lv:=fun x hx=>by
  rcases List.mem_append.1 (show x∈m.lv++makes3 i from hx) with h1|h1
  ·exact h.lv x h1
  ·exact hi.2.2.2.2.1 x h1
 blk:=fun q hq=>by
  show gB m.nx (ix (m.bs.set _ _) q)
  rw[ix_set (by rw[h.len];omega)];split
  ·have h1:=h.blk j.toNat (by omega)
   refine⟨fun y hy=>?_,h1.2⟩
   rcases List.mem_append.1 hy with h2|h2
   ·exact h1.1 y h2
   ·simp at h2;subst h2;exact hi
  ·exact h.blk q hq
 tos:=fun q hq=>by
  show(ix (m.bs.set _ _) q).Term.To=_
  rw[ix_set (by rw[h.len];omega)];split
  ·rename_i e;subst e;exact h.tos _ hq
  ·exact h.tos q hq
 kd:=fun q hb hq=>by
  show(ix (m.bs.set _ _) q).Term.Kind≠0
  rw[ix_set (by rw[h.len];omega)];split
  ·rename_i e;subst e;exact h.kd _ hb hq
  ·exact h.kd q hb hq
theorem gI_const{n v:Int}{x:Int}(h:0≤x∧x<n):gI n ⟨1,x,0,[],v⟩:=⟨(by dsimp only;omega),.inl rfl,Nat.zero_le _,fun a ha=>(by cases ha),fun a ha=>(by simp[makes3] at ha;subst ha;exact h),fun h=>(by simp at h)⟩
theorem gI_two{n op x a b v:Int}(hop:2≤op∧op≤14)(h:0≤x∧x<n)(ha:0≤a∧a<n)(hb:0≤b∧b<n):gI n ⟨op,x,0,[a,b],v⟩ :=
 ⟨(by dsimp only;omega),.inr (.inr (.inr (Nat.le_refl _))),(by show 2≤4;omega),fun y hy=>(by simp at hy;rcases hy with rfl|rfl<;>assumption),fun y hy=>(by
  have:makes3 ⟨op,x,0,[a,b],v⟩=[x]:=by unfold makes3;rw[if_neg (by dsimp only;omega),if_neg (by dsimp only;omega)]
  rw[this] at hy;simp at hy;subst hy;exact h),fun h=>(by dsimp only at h;omega)⟩
theorem RI.const{j v:Int}(h:RI n b c to m)(hj:0≤j∧j<n):RI n b (c+2) to (constS j v m):=h.fresh.add hj (gI_const (by have:=h.nx;have:=h.par;show 0≤m.nx∧m.nx<m.nx+1;omega))
theorem nx_const{j v:Int}:(constS j v m).nx=m.nx+1:=rfl
theorem RI.word(h:RI n b c to m):RI n b c to (wordS m):=h.take.take
theorem RI.value(h:RI n b c to m):RI n b c to (valueS m)∧(valueS m).nx=m.nx:=by unfold valueS;split;exact⟨h,rfl⟩;exact⟨h.take.take,rfl⟩
theorem RI.some0(h:RI n b c to m):RI n b c to (someM0 m)∧(someM0 m).nx=m.nx:=by
 unfold someM0;split
 ·exact⟨h.value.1.take,h.value.2⟩
 ·exact h.value
theorem RI.nn(h:RI n b c to m):0≤m.nx:=by have:=h.nx;have:=h.par;omega
theorem RI.some{j:Int}(h:RI n b c to m)(hj:0≤j∧j<n):RI n b (c+2) to (sS9 j m)∧m.nx≤(sS9 j m).nx∧0≤sV9 m∧sV9 m<(sS9 j m).nx:=by
 have h0:=h.some0
 have hn:=h.nn
 unfold sS9 sV9
 by_cases hc:someC m=true
 ·rw[if_pos hc,if_pos hc,nx_const]
  have:(wordS (someM0 m)).nx=m.nx:=h0.2
  exact⟨h0.1.word.const hj,by omega,by omega,by omega⟩
 ·rw[if_neg hc,if_neg hc]
  refine⟨h0.1.mono (by omega),by omega,?_⟩
  rw[h0.2]
  have hv:valueB m=true:=by
   cases h9:valueB m with
   | true=>rfl
   | false=>exact absurd (by unfold someC;rw[h9];rfl) hc
  have hl:m.lv.length≠0:=by unfold valueB at hv;simpa using hv
  unfold valueV
  rw[if_neg hl]
  have hr:0≤valueI m∧valueI m<m.lv.length:=by
   unfold valueI;split
   ·omega
   ·exact tV9 (by omega) m
  have:=h.lv _ (ix_mem (l:=m.lv) (i:=(valueI m).toNat) (by omega))
  exact this
theorem RI.me1{j:Int}(h:RI n b c to m)(hj:0≤j∧j<n):RI n b (c+12) to (mem1 j m).2∧m.nx≤(mem1 j m).2.nx∧0≤(mem1 j m).1∧(mem1 j m).1<(mem1 j m).2.nx:=by
 have h1:RI n b (c+2) to (constS j (IntKind.i32.wrap (tVV 9 m)) (tSS m)):=h.take.const hj
 have hn:=h.nn
 unfold mem1
 dsimp only
 split
 ·have h2:=h1.take.some hj
  have e2:(tSS (constS j (IntKind.i32.wrap (tVV 9 m)) (tSS m))).nx=m.nx+1:=rfl
  generalize tSS (constS j (IntKind.i32.wrap (tVV 9 m)) (tSS m))=m2 at h2 e2 ⊢
  have h3:=h2.1
  generalize sS9 j m2=m3 at h2 h3 ⊢
  have h4:RI n b (c+6) to (constS j 7 m3):=h3.const hj
  have e4:(constS j 7 m3).nx=m3.nx+1:=rfl
  generalize constS j 7 m3=m4 at h4 e4 ⊢
  have h6:RI n b (c+8) to (addS j ⟨5,m4.nx,0,[sV9 m2,m3.nx],0⟩ (freshS m4)):=h4.fresh.add hj (gI_two (by omega) (by show _∧_<m4.nx+1;omega) (by show _∧_<m4.nx+1;omega) (by show _∧_<m4.nx+1;omega))
  have e6:(addS j ⟨5,m4.nx,0,[sV9 m2,m3.nx],0⟩ (freshS m4)).nx=m4.nx+1:=rfl
  generalize addS j ⟨5,m4.nx,0,[sV9 m2,m3.nx],0⟩ (freshS m4)=m6 at h6 e6 ⊢
  have et:(tSS m).nx=m.nx:=rfl
  refine⟨(h6.fresh.add hj (gI_two (by omega) (by show _∧_<m6.nx+1;omega) (by show _∧_<m6.nx+1;omega) (by show _∧_<m6.nx+1;omega))).mono (by omega),?_,?_,?_⟩
  ·show m.nx≤m6.nx+1;omega
  ·show 0≤m6.nx;omega
  ·show m6.nx<m6.nx+1;omega
 ·refine⟨h1.take.mono (by omega),?_,?_,?_⟩
  ·show m.nx≤m.nx+1;omega
  ·show 0≤m.nx;omega
  ·show m.nx<m.nx+1;omega
theorem RI.me2(h:RI n b c to m):RI n b c to (mem2 m).2∧(mem2 m).2.nx=m.nx:=by
 unfold mem2;dsimp only;split
 ·exact⟨h.take.take.word,rfl⟩
 ·exact⟨h.take.take,rfl⟩
theorem RI.mem{j:Int}{st:Bool}(h:RI n b c to m)(hj:0≤j∧j<n):RI n b (c+15) to (memS j st m):=by
 have h1:=h.me1 hj
 have h2:=h1.1.me2
 unfold memS
 dsimp only
 have hn:=h2.1.nn
 split
 ·have h3:=h2.1.some hj
  exact h3.1.add hj ⟨(by dsimp only;omega),.inr (.inr (.inr (Nat.le_refl _))),(by show 2≤4;omega),fun y hy=>(by simp at hy;rcases hy with rfl|rfl<;>omega),fun y hy=>(by simp[makes3] at hy),fun h=>(by simp at h)⟩
 ·refine(h2.1.fresh.add hj ⟨(by dsimp only;omega),.inr (.inr (.inl ⟨rfl,Nat.le_refl _⟩)),(by show 1≤4;omega),fun y hy=>(by simp at hy;subst hy;show _∧_<_+1;omega),fun y hy=>(by simp[makes3] at hy;subst hy;show _∧_<_+1;omega),fun h=>(by simp at h)⟩).mono (by omega)
theorem RI.args{j:Int}(hj:0≤j∧j<n):∀(k:Nat) {c:Nat} (l:List Int) (m:Mk),RI n b c to m→(∀x∈l,0≤x∧x<m.nx)→RI n b (c+2*k) to (argsL j k l m).2∧m.nx≤(argsL j k l m).2.nx∧∀x∈(argsL j k l m).1,0≤x∧x<(argsL j k l m).2.nx
 | 0,_,l,m,h,hl=>⟨h,Int.le_refl _,hl⟩
 | k+1,c,l,m,h,hl=>by
  have h1:=h.some hj
  rw[argsL]
  obtain⟨a,d,e⟩:=RI.args hj k (l++[sV9 m]) (sS9 j m) h1.1 (fun x hx=>by
   rcases List.mem_append.1 hx with h2|h2
   ·have:=hl x h2;omega
   ·simp at h2;subst h2;omega)
  exact⟨a.mono (by omega),by omega,e⟩
theorem op_rng2{k:Int}(h:0≤k∧k<12):2≤ix [(2:Int),2,3,4,5,6,7,8,9,10,12,11] k.toNat∧ix [(2:Int),2,3,4,5,6,7,8,9,10,12,11] k.toNat≤14:=by
 have:∀i:Nat,i<12→2≤ix [(2:Int),2,3,4,5,6,7,8,9,10,12,11] i∧ix [(2:Int),2,3,4,5,6,7,8,9,10,12,11] i≤14:=by decide
 exact this _ (by omega)
theorem op3_rng2{k:Int}(h:0≤k∧k<3):2≤ix [(11:Int),12,13] k.toNat∧ix [(11:Int),12,13] k.toNat≤14:=by
 have:∀i:Nat,i<3→2≤ix [(11:Int),12,13] i∧ix [(11:Int),12,13] i≤14:=by decide
 exact this _ (by omega)
theorem RI.ins{j:Int}(h:RI n b c to m)(hj:0≤j∧j<n):RI n b (c+16) to (insS j m):=by
 have hn:=h.nn
 have hk:=tV9 (n:=20) (by omega) m
 have h1:RI n b c to (tSS m):=h.take
 have e1:(tSS m).nx=m.nx:=rfl
 have h2:=h1.some hj
 have h3:=h2.1.some hj
 unfold insS
 dsimp only
 generalize tVV 20 m=k at hk ⊢
 generalize tSS m=m1 at h1 e1 h2 h3 ⊢
 split
 ·split
  ·have h4:RI n b (c+6) to (constS j (IntKind.i32.wrap (tVV 40 (tSS (sS9 j (sS9 j m1)))-8)) (tSS (tSS (sS9 j (sS9 j m1))))):=h3.1.take.take.const hj
   have e4:(constS j (IntKind.i32.wrap (tVV 40 (tSS (sS9 j (sS9 j m1)))-8)) (tSS (tSS (sS9 j (sS9 j m1))))).nx=(sS9 j (sS9 j m1)).nx+1:=rfl
   have e5:(tSS (tSS (sS9 j (sS9 j m1)))).nx=(sS9 j (sS9 j m1)).nx:=rfl
   generalize constS j (IntKind.i32.wrap (tVV 40 (tSS (sS9 j (sS9 j m1)))-8)) (tSS (tSS (sS9 j (sS9 j m1))))=m4 at h4 e4 ⊢
   exact(h4.fresh.add hj (gI_two (op_rng2 (by omega)) (by show _∧_<m4.nx+1;omega) (by show _∧_<m4.nx+1;omega) (by show _∧_<m4.nx+1;omega))).mono (by omega)
  ·have e5:(tSS (sS9 j (sS9 j m1))).nx=(sS9 j (sS9 j m1)).nx:=rfl
   exact(h3.1.take.fresh.add hj (gI_two (op_rng2 (by omega)) (by show _∧_<(sS9 j (sS9 j m1)).nx+1;omega) (by show _∧_<(sS9 j (sS9 j m1)).nx+1;omega) (by show _∧_<(sS9 j (sS9 j m1)).nx+1;omega))).mono (by omega)
 split
 ·exact(h3.1.fresh.add hj (gI_two (by omega) (by show _∧_<(sS9 j (sS9 j m1)).nx+1;omega) (by show _∧_<(sS9 j (sS9 j m1)).nx+1;omega) (by show _∧_<(sS9 j (sS9 j m1)).nx+1;omega))).mono (by omega)
 split
 ·have h4:RI n b (c+4) to (constS j (IntKind.i32.wrap (tVV 12 (sS9 j m1))) (tSS (sS9 j m1))):=h2.1.take.const hj
  have e4:(constS j (IntKind.i32.wrap (tVV 12 (sS9 j m1))) (tSS (sS9 j m1))).nx=(sS9 j m1).nx+1:=rfl
  have e9:(tSS (sS9 j m1)).nx=(sS9 j m1).nx:=rfl
  generalize constS j (IntKind.i32.wrap (tVV 12 (sS9 j m1))) (tSS (sS9 j m1))=m4 at h4 e4 ⊢
  split
  ·have h5:RI n b (c+6) to (constS j (IntKind.i32.wrap (1+IntKind.i32.wrap (tVV 12 (tSS m4)))) (tSS (tSS m4))):=h4.take.take.const hj
   have e5:(constS j (IntKind.i32.wrap (1+IntKind.i32.wrap (tVV 12 (tSS m4)))) (tSS (tSS m4))).nx=m4.nx+1:=rfl
   have e6:(tSS (tSS m4)).nx=m4.nx:=rfl
   generalize constS j (IntKind.i32.wrap (1+IntKind.i32.wrap (tVV 12 (tSS m4)))) (tSS (tSS m4))=m5 at h5 e5 ⊢
   exact(h5.fresh.add hj (gI_two (by omega) (by show _∧_<m5.nx+1;omega) (by show _∧_<m5.nx+1;omega) (by show _∧_<m5.nx+1;omega))).mono (by omega)
  ·have e6:(tSS m4).nx=m4.nx:=rfl
   exact(h4.take.fresh.add hj (gI_two (by omega) (by show _∧_<m4.nx+1;omega) (by show _∧_<m4.nx+1;omega) (by show _∧_<m4.nx+1;omega))).mono (by omega)
 split
 ·exact(h1.mem hj).mono (by omega)
 split
 ·have h5:=tV9 (n:=5) (by omega) m1
  obtain⟨a,d,e⟩:=RI.args hj (tVV 5 m1).toNat [] (tSS m1) h1.take (fun x hx=>by cases hx)
  have hl:=args_len (b:=j) (tVV 5 m1).toNat [] (tSS m1)
  have hn2:=a.nn
  generalize argsL j (tVV 5 m1).toNat [] (tSS m1)=r at a d e hl hn2 ⊢
  refine((a.fresh.take).add hj ⟨(by dsimp only;omega),.inr (.inl rfl),(by dsimp only;rw[hl];simp;omega),fun y hy=>?_,fun y hy=>?_,fun h=>(by simp at h)⟩).mono (by omega)
  ·have:=e y hy;show _∧_<r.2.nx+1;omega
  ·simp[makes3] at hy;subst hy;show 0≤r.2.nx∧r.2.nx<r.2.nx+1;omega
 split
 ·refine(h3.1.fresh.fresh.add hj ⟨(by dsimp only;omega),.inr (.inr (.inr (Nat.le_refl _))),(by show 2≤4;omega),fun y hy=>?_,fun y hy=>?_,fun _=>?_⟩).mono (by omega)
  ·simp at hy;show _∧_<(sS9 j (sS9 j m1)).nx+1+1
   rcases hy with rfl|rfl<;>omega
  ·simp[makes3] at hy;show _∧_<(sS9 j (sS9 j m1)).nx+1+1
   have e:(freshS (sS9 j (sS9 j m1))).nx=(sS9 j (sS9 j m1)).nx+1:=rfl
   rcases hy with rfl|rfl<;>omega
  ·show(sS9 j (sS9 j m1)).nx≠(sS9 j (sS9 j m1)).nx+1;omega
 ·exact(h1.word.const hj).mono (by omega)
theorem RI.setT{t:D.Term}(h:RI n b c to m)(hb:b<n)(ht:gT m.nx t)(hto:t.To=ix to b):RI n (b+1) c to (setT (b:Int) t m) where
 len:=by show(m.bs.set _ _).length=n;rw[List.length_set];exact h.len
 par:=h.par
 nx:=h.nx
 cnt:=by
  have h1:=cI_set (l:=m.bs) (j:=(b:Int).toNat) (d:=0) (b:={ (ix m.bs (b:Int).toNat) with Term:=t }) (by dsimp only;omega)
  have h2:=h.cnt
  show cI (m.bs.set _ _)≤_;omega
 lv:=h.lv
 blk:=fun q hq=>by
  show gB m.nx (ix (m.bs.set _ _) q)
  rw[ix_set (by rw[h.len];omega)];split
  ·have h1:=h.blk b hb
   exact⟨h1.1,h1.2.1,.inr ht,h1.2.2.2⟩
  ·exact h.blk q hq
 tos:=fun q hq=>by
  show(ix (m.bs.set _ _) q).Term.To=_
  rw[ix_set (by rw[h.len];omega)];split
  ·rename_i e;rw[e];exact hto
  ·exact h.tos q hq
 kd:=fun q hb' hq=>by
  show(ix (m.bs.set _ _) q).Term.Kind≠0
  rw[ix_set (by rw[h.len];omega)];split
  ·have:=ht.1;show t.Kind≠0;omega
  ·rename_i e;exact h.kd q (by simp at e;omega) hq
theorem RI.en(h:RI n b c to m)(hb:b<n)(hL:(ix to b).length≤65):RI n (b+1) (c+8) to (endS (b:Int) (ix to b) m):=by
 have hj:0≤(b:Int)∧(b:Int)<n:=by omega
 have hn:=h.nn
 unfold endS
 split
 ·rename_i h0
  have e0:ix to b=[]:=List.eq_nil_of_length_eq_zero h0
  split
  ·exact(h.take.take.setT hb ⟨(by dsimp only;omega),fun a ha=>(by cases ha),fun h=>(by simp at h),fun h=>(by simp at h),fun h=>(by simp at h),fun _=>rfl⟩ e0.symm).mono (by omega)
  split
  ·have h1:=h.take.some hj
   exact(h1.1.setT hb ⟨(by dsimp only;omega),fun a ha=>(by simp at ha;subst ha;omega),fun h=>(by simp at h),fun h=>(by simp at h),fun h=>(by simp at h),fun _=>rfl⟩ e0.symm).mono (by omega)
  ·exact(h.take.setT hb ⟨(by dsimp only;omega),fun a ha=>(by cases ha),fun h=>(by simp at h),fun h=>(by simp at h),fun h=>(by simp at h),fun _=>rfl⟩ e0.symm).mono (by omega)
 split
 ·rename_i h1
  exact(h.setT hb ⟨(by dsimp only;omega),fun a ha=>(by cases ha),fun _=>h1,fun h=>(by simp at h),fun h=>(by simp at h),fun h=>(by dsimp only at h;omega)⟩ rfl).mono (by omega)
 split
 ·rename_i h2
  have h3:=h.some hj
  dsimp only
  split
  ·have h4:=h3.1.take.some hj
   have e4:(tSS (sS9 (b:Int) m)).nx=(sS9 (b:Int) m).nx:=rfl
   have ht:=tV9 (n:=3) (by omega) (freshS (sS9 (b:Int) (tSS (sS9 (b:Int) m))))
   have h5:RI n b (c+6) to (addS (b:Int) ⟨ix [11,12,13] (tVV 3 (freshS (sS9 (b:Int) (tSS (sS9 (b:Int) m))))).toNat,(sS9 (b:Int) (tSS (sS9 (b:Int) m))).nx,0,[sV9 m,sV9 (tSS (sS9 (b:Int) m))],0⟩ (tSS (freshS (sS9 (b:Int) (tSS (sS9 (b:Int) m)))))) :=
    h4.1.fresh.take.add hj (gI_two (op3_rng2 ht) (by show _∧_<(sS9 (b:Int) (tSS (sS9 (b:Int) m))).nx+1;omega) (by show _∧_<(sS9 (b:Int) (tSS (sS9 (b:Int) m))).nx+1;omega) (by show _∧_<(sS9 (b:Int) (tSS (sS9 (b:Int) m))).nx+1;omega))
   refine(h5.setT hb ⟨(by dsimp only;omega),fun a ha=>?_,fun h=>(by simp at h),fun _=>⟨h2,Nat.le_refl _⟩,fun h=>(by simp at h),fun h=>(by dsimp only at h;omega)⟩ rfl).mono (by omega)
   simp at ha;subst ha
   show 0≤_∧_<(sS9 (b:Int) (tSS (sS9 (b:Int) m))).nx+1;omega
  ·refine(h3.1.take.setT hb ⟨(by dsimp only;omega),fun a ha=>?_,fun h=>(by simp at h),fun _=>⟨h2,Nat.le_refl _⟩,fun h=>(by simp at h),fun h=>(by dsimp only at h;omega)⟩ rfl).mono (by omega)
   simp at ha;subst ha
   show 0≤_∧_<(sS9 (b:Int) m).nx;omega
 ·rename_i h0 h1 h2
  have h3:=h.some hj
  dsimp only
  have h4:RI n b (c+4) to (constS (b:Int) 7 (sS9 (b:Int) m)):=h3.1.const hj
  have e4:(constS (b:Int) 7 (sS9 (b:Int) m)).nx=(sS9 (b:Int) m).nx+1:=rfl
  generalize constS (b:Int) 7 (sS9 (b:Int) m)=m4 at h4 e4 ⊢
  have h5:RI n b (c+6) to (addS (b:Int) ⟨5,m4.nx,0,[sV9 m,(sS9 (b:Int) m).nx],0⟩ (freshS m4)):=h4.fresh.add hj (gI_two (by omega) (by show _∧_<m4.nx+1;omega) (by show _∧_<m4.nx+1;omega) (by show _∧_<m4.nx+1;omega))
  refine(h5.setT hb ⟨(by dsimp only;omega),fun a ha=>?_,fun h=>(by simp at h),fun h=>(by simp at h),fun _=>⟨(by dsimp only;omega),hL,Nat.le_refl _⟩,fun h=>(by dsimp only at h;omega)⟩ rfl).mono (by omega)
  simp at ha;subst ha
  show 0≤m4.nx∧m4.nx<m4.nx+1;omega
end
section
variable{n b c d:Nat}{to:List (List Int)}{m:Mk}
theorem RI.is(hb:b<n):∀(k:Nat) {c:Nat} {m:Mk},RI n b c to m→RI n b (c+16*k) to (insN b k m)
 | 0,_,_,h=>h
 | k+1,_,_,h=>(RI.is hb k (h.ins (by omega))).mono (by omega)
theorem numsL_mem{k:Nat}{x:Int}(h:x∈numsL k):0≤x∧x<k:=by
 unfold numsL at h
 obtain⟨i,h1,rfl⟩:=List.mem_map.1 h
 have:=List.mem_range.1 h1;omega
theorem RI.lm{dn:List Bool}(h:RI n b c to m):RI n b c to (lvM n b dn m) where
 len:=h.len
 par:=h.par
 nx:=h.nx
 cnt:=h.cnt
 lv:=fun x hx=>by
  show 0≤x∧x<m.nx
  rcases List.mem_append.1 (show x∈numsL m.par.toNat++(List.range n).flatMap (fun i=>lvB (fnM m) dn b i) from hx) with h1|h1
  ·have:=numsL_mem h1;have:=h.nx;have:=h.par;omega
  ·obtain⟨a,h2,h3⟩:=List.mem_flatMap.1 h1
   have ha:=List.mem_range.1 h2
   have hg:=h.blk a ha
   unfold lvB at h3
   split at h3
   ·cases h3
   ·rcases List.mem_append.1 h3 with h4|h4
    ·obtain⟨p,h5,rfl⟩:=List.mem_map.1 h4
     exact(hg.2.1 p h5).1
    ·obtain⟨i,h5,h6⟩:=List.mem_flatMap.1 h4
     exact(hg.1 i h5).2.2.2.2.1 x h6
 blk:=h.blk
 tos:=h.tos
 kd:=h.kd
theorem RI.bl{dn:List Bool}(h:RI n b c to m)(hb:b<n)(hL:∀j,(ix to j).length≤65):RI n (b+1) (c+120) to (blkM n to b dn m):=by
 unfold blkM
 have h7:=tV9 (n:=7) (by omega) (lvM n b dn m)
 exact(((h.lm (dn:=dn)).take.is hb _).en hb (hL b)).mono (by omega)
theorem RI.parent(h:RI n b c to m)(hP:PB n to):Parent (fnM m).Blocks.length (fun j=>(ix (fnM m).Blocks j).Term.To):=fun q h1 h2=>by
 have h2':q<n:=by have:=h.len;have e:(fnM m).Blocks=m.bs:=rfl;rw[e] at h2;omega
 obtain⟨p,h3,h4⟩:=hP q h1 (by omega)
 refine⟨p,h3,?_⟩
 show(q:Int)∈(ix m.bs p).Term.To
 rw[h.tos p (by omega)];exact h4
theorem RI.ready{dn:List Bool}(h:RI n b c to m)(hP:PB n to)(hb:b<n)(hd:∀j,j<n→ix dn j=decide (j<b)):readyF (fnM m) dn b n=true:=by
 unfold readyF
 rw[hd b hb,Bool.and_eq_true]
 refine⟨by simp,List.all_eq_true.2 fun a ha=>?_⟩
 have ha':=List.mem_range.1 ha
 unfold okA
 rcases Nat.lt_trichotomy a b with h1|h1|h1
 ·rw[hd a ha'];simp[h1]
 ·simp[h1]
 ·rw[reach3_low (h.parent hP) b h1 (by show b<m.bs.length;rw[h.len];exact hb)];simp
theorem RI.row(hP:PB n to)(hL:∀j,(ix to j).length≤65):∀(k b c:Nat) (dn:List Bool) (m:Mk),b+k=n→dn.length=n→(∀j,j<n→ix dn j=decide (j<b))→RI n b c to m →
  RI n n (c+120*k) to (rowS n to k b dn m).2∧∀j,j<n→ix (rowS n to k b dn m).1 j=true
 | 0,b,c,dn,m,hb,hl,hd,h=>by
  have e:b=n:=by omega
  subst e
  exact⟨h,fun j hj=>by show ix dn j=true;rw[hd j hj];simpa using hj⟩
 | k+1,b,c,dn,m,hb,hl,hd,h=>by
  rw[rowS,if_pos (h.ready hP (by omega) hd)]
  obtain⟨x,y⟩:=RI.row hP hL k (b+1) (c+120) (dn.set b true) (blkM n to b (dn.set b true) m) (by omega) (by rw[List.length_set];exact hl) (fun j hj=>by
   rw[ix_set (by omega)];split
   ·rename_i e;subst e;simp
   ·rename_i e;rw[hd j hj,decide_eq_decide];omega) (h.bl (by omega) hL)
  exact⟨x.mono (by omega),y⟩
theorem row_idle:∀(k b:Nat) (dn:List Bool) (m:Mk),b+k=n→(∀j,j<n→ix dn j=true)→rowS n to k b dn m=(dn,m)
 | 0,_,_,_,_,_=>rfl
 | k+1,b,dn,m,hb,h=>by
  rw[rowS,if_neg (by unfold readyF;rw[h b (by omega)];simp)]
  exact row_idle k (b+1) dn m (by omega) h
theorem turn_idle:∀(k:Nat) (dn:List Bool) (m:Mk),(∀j,j<n→ix dn j=true)→turnS n to k dn m=(dn,m)
 | 0,_,_,_=>rfl
 | k+1,dn,m,h=>by rw[turnS,row_idle n 0 dn m (by omega) h];exact turn_idle k dn m h
theorem RI.turn(hP:PB n to)(hL:∀j,(ix to j).length≤65)(hn:0<n)(h:RI n 0 c to m):RI n n (c+120*n) to (turnS n to n (List.replicate n false) m).2:=by
 obtain⟨k,rfl⟩:∃k,n=k+1:=⟨n-1,by omega⟩
 rw[turnS]
 obtain⟨x,y⟩:=RI.row hP hL (k+1) 0 c (List.replicate (k+1) false) m (by omega) (by simp) (fun j hj=>by rw[ix_rep];simp) h
 rw[turn_idle k _ _ y]
 exact x
theorem RI.ap{j:Nat}(h:RI n b c to m)(hj:j<n):RI n b (c+1) to (addP j m) where
 len:=by show(m.bs.set _ _).length=n;rw[List.length_set];exact h.len
 par:=h.par
 nx:=by have:=h.nx;show m.par≤m.nx+1∧m.nx+1≤_;omega
 cnt:=by
  have h1:cI (addP j m).bs≤cI m.bs+0:=cI_set (l:=m.bs) (j:=j) (d:=0) (by exact Nat.le_refl _)
  have h2:=h.cnt
  omega
 lv:=fun x hx=>by have:=h.lv x hx;show 0≤x∧x<m.nx+1;omega
 blk:=fun q hq=>by
  have hn:=h.nn
  show gB (m.nx+1) (ix (m.bs.set _ _) q)
  rw[ix_set (by rw[h.len];omega)];split
  ·have h0:=h.blk j hj
   have h1:=h0.mono (show m.nx≤m.nx+1 by omega)
   refine⟨h1.1,fun p hp=>?_,h1.2.2.1,?_⟩
   ·rcases List.mem_append.1 (show p∈(ix m.bs j).Phis++[⟨m.nx,[]⟩] from hp) with h2|h2
    ·exact h1.2.1 p h2
    ·simp at h2;subst h2;exact⟨by dsimp only;omega,fun x hx=>by cases hx⟩
   ·show(((ix m.bs j).Phis++[(⟨m.nx,[]⟩:D.Phi)]).map (fun p=>p.Dst)).Nodup
    rw[List.map_append,List.nodup_append]
    refine⟨h0.2.2.2,by simp,fun a ha x hx=>?_⟩
    simp at hx;subst hx
    obtain⟨p,h3,rfl⟩:=List.mem_map.1 ha
    have:=(h0.2.1 p h3).1;omega
  ·exact(h.blk q hq).mono (by omega)
 tos:=fun q hq=>by
  show(ix (m.bs.set _ _) q).Term.To=_
  rw[ix_set (by rw[h.len];omega)];split
  ·rename_i e;subst e;exact h.tos _ hq
  ·exact h.tos q hq
 kd:=fun q hb hq=>by
  show(ix (m.bs.set _ _) q).Term.Kind≠0
  rw[ix_set (by rw[h.len];omega)];split
  ·rename_i e;subst e;exact h.kd _ hb hq
  ·exact h.kd q hb hq
theorem RI.pn{j:Nat}(hj:j<n):∀(k:Nat) {c:Nat} {m:Mk},RI n b c to m→RI n b (c+k) to (phiN j k m)
 | 0,_,_,h=>h
 | k+1,_,_,h=>(RI.pn hj k (h.ap hj)).mono (by omega)
theorem RI.ps:∀(k j c:Nat) (ph:List Int) (m:Mk),j+k=n→ph.length=n→(∀j,0≤ix ph j∧ix ph j≤3)→phiOK j ph m→RI n b c to m →
  RI n b (c+3*k) to (phiS k j ph m).2∧phiOK n (phiS k j ph m).1 (phiS k j ph m).2∧∀i,0≤ix (phiS k j ph m).1 i∧ix (phiS k j ph m).1 i≤3
 | 0,j,c,ph,m,hj,hl,hr,ho,h=>by
  have e:j=n:=by omega
  subst e;exact⟨h,ho,hr⟩
 | k+1,j,c,ph,m,hj,hl,hr,ho,h=>by
  have hr':=phiR_rng (b:=j) (m:=m) hr
  have h1:RI n b (c+3) to (phiN j (ix (phiR j ph m) j).toNat (tSS m)):=(h.take.pn (j:=j) (by omega) _).mono (by have:=hr' j;omega)
  have h2:=phi_step ho (by rw[h.len];omega) (by omega) (rfl:phiR j ph m=phiR j ph m)
  obtain⟨a,d,e⟩:=RI.ps k (j+1) (c+3) (phiR j ph m) _ (by omega) (by rw[phiR_len];exact hl) hr' h2 h1
  rw[phiS]
  exact⟨a.mono (by omega),d,e⟩
theorem pl_toS(to:List (List Int)):∀(k b:Nat) (m:Mk),pl (toS to k b m)=pl m
 | 0,_,_=>rfl
 | k+1,b,m=>(pl_toS to k (b+1) _).trans pl_setTo
theorem toS_bs(to:List (List Int)):∀(k b:Nat) (m:Mk),(toS to k b m).bs.length=m.bs.length∧(toS to k b m).nx=m.nx∧(toS to k b m).par=m.par∧(toS to k b m).lv=m.lv ∧
  ∀j,j<m.bs.length→ix (toS to k b m).bs j=if b≤j∧j<b+k then { (ix m.bs j) with Term:={ (ix m.bs j).Term with To:=ix to j } } else ix m.bs j
 | 0,b,m=>⟨rfl,rfl,rfl,rfl,fun j hj=>by rw[if_neg (by omega)];rfl⟩
 | k+1,b,m=>by
  obtain⟨a1,a2,a3,a4,a5⟩:=toS_bs to k (b+1) (setTo b (ix to b) m)
  have e:(setTo b (ix to b) m).bs.length=m.bs.length:=by show(m.bs.set _ _).length=_;simp
  rw[toS]
  refine⟨a1.trans e,a2,a3,a4,fun j hj=>?_⟩
  rw[a5 j (by rw[e];exact hj)]
  have e2:∀j,ix (setTo b (ix to b) m).bs j=if j=b then (if b<m.bs.length then { (ix m.bs b) with Term:={ (ix m.bs b).Term with To:=ix to b } } else ix m.bs b) else ix m.bs j:=by
   intro j
   show ix (m.bs.set _ _) j=_
   by_cases hb:b<m.bs.length
   ·rw[ix_set hb,if_pos hb]
   ·rw[List.set_eq_of_length_le (by omega),if_neg hb];split;(· rename_i e9;rw[e9]);rfl
  rw[e2 j]
  by_cases h1:j=b
  ·subst h1
   rw[if_neg (by omega),if_pos rfl,if_pos hj,if_pos (by omega)]
  ·rw[if_neg h1]
   by_cases h2:b≤j∧j<b+(k+1)
   ·rw[if_pos (by omega),if_pos h2]
   ·rw[if_neg (by omega),if_neg h2]
theorem ix_repD(n j:Nat):ix (List.replicate n (default:D.Block)) j=default:=by by_cases hj:j<n<;>simp[ix,hj]
theorem cI_def:∀(l:List D.Block),(∀j,j<l.length→(ix l j).Ins=[])→cI l=0
 | [],_=>rfl
 | x::l,h=>by
  have h0:=h 0 (by simp)
  rw[ix_zero] at h0
  rw[cI,h0,cI_def l (fun j hj=>by have:=h (j+1) (by simpa using hj);rwa[ix_cons] at this)];rfl
theorem mdB_RI(s:List Int):RI (mdN s).toNat 0 4 (mdT s).1 (mdB s)∧TR (mdN s).toNat 30 (mdT s).1∧PB (mdN s).toNat (mdT s).1∧(1≤(mdN s).toNat∧(mdN s).toNat≤9)∧phiOK 1 (List.replicate (mdN s).toNat 0) (mdB s):=by
 have h9:=tV9 (n:=9) (by omega) (md0 s)
 have hN:1≤mdN s∧mdN s≤9:=by unfold mdN;omega
 have h5:=tV9 (n:=5) (by omega) ⟨s,0,0,[],0,[]⟩
 obtain⟨t1,t2⟩:=targM_tr (n:=(mdN s).toNat) (by omega) (tSS (md0 s))
 rw[show(((mdN s).toNat:Nat):Int)=mdN s by omega] at t1 t2
 have hsame:(mdT s).2.nx=tVV 5 ⟨s,0,0,[],0,[]⟩∧(mdT s).2.par=tVV 5 ⟨s,0,0,[],0,[]⟩∧(mdT s).2.lv=[]:=by
  obtain⟨q,hk⟩:=targM_k (mdN s) (tSS (md0 s))
  have e:(mdT s).2={ (tSS (md0 s)) with k:=q }:=hk
  rw[e];exact⟨rfl,rfl,rfl⟩
 obtain⟨a1,a2,a3,a4,a5⟩:=toS_bs (mdT s).1 (mdN s).toNat 0 { (mdT s).2 with bs:=List.replicate (mdN s).toNat default }
 have hlen:(List.replicate (mdN s).toNat (default:D.Block)).length=(mdN s).toNat:=by simp
 have hb:∀j,j<(mdN s).toNat→ix (mdB s).bs j={ (default:D.Block) with Term:={ (default:D.Block).Term with To:=ix (mdT s).1 j } }:=fun j hj=>by
  have:=a5 j (by show j<(List.replicate _ _).length;rw[hlen];exact hj)
  rw[if_pos (by omega)] at this
  dsimp only at this
  rw[ix_repD] at this
  exact this
 have hpar:(mdB s).par=tVV 5 ⟨s,0,0,[],0,[]⟩:=a3.trans hsame.2.1
 have hnx:(mdB s).nx=tVV 5 ⟨s,0,0,[],0,[]⟩:=a2.trans hsame.1
 refine⟨⟨a1.trans hlen,by rw[hpar];omega,by rw[hpar,hnx];omega,?_,fun x hx=>?_,fun j hj=>?_,fun j hj=>by rw[hb j hj],fun j hj=>by omega⟩,t1,by rw[show(((mdN s).toNat:Nat):Int)=mdN s by omega];exact t2,by omega,?_⟩
 ·rw[cI_def _ (fun j hj=>by rw[hb j (by rw[←hlen,←a1];exact hj)];rfl)];omega
 ·have e:(mdB s).lv=[]:=a4.trans hsame.2.2
  rw[e] at hx;cases hx
 ·rw[hb j hj];exact⟨fun i hi=>(by cases hi),fun p hp=>(by cases hp),.inl rfl,by show([]:List Int).Nodup;simp⟩
 ·refine phi_start (m':={ (mdT s).2 with bs:=List.replicate (mdN s).toNat default }) ?_ rfl
  exact pl_toS _ _ _ _
end
def pT(to:List (List Int)):Nat→Int→List Int
 | 0,_=>[]
 | k+1,b=>pT to k b++(if (ix to k).any (fun y=>decide (y=b)) then [(k:Int)] else [])
theorem preds_pT{bs:List D.Block}{to:List (List Int)}:∀(k:Nat) (b:Int),(∀j,j<k→(ix bs j).Term.To=ix to j)→predsT3 bs k b=pT to k b
 | 0,_,_=>rfl
 | k+1,b,h=>by rw[predsT3,pT,preds_pT k b (fun j hj=>h j (by omega)),h k (by omega)]
theorem pT_rng{to:List (List Int)}:∀(k:Nat) (b:Int),∀x∈pT to k b,0≤x∧x<k
 | 0,_,x,h=>by cases h
 | k+1,b,x,h=>by
  rw[pT] at h
  rcases List.mem_append.1 h with h1|h1
  ·have:=pT_rng k b x h1;omega
  ·split at h1
   ·simp at h1;omega
   ·cases h1
theorem pT_len{to:List (List Int)}:∀(k:Nat) (b:Int),(pT to k b).length≤k
 | 0,_=>Nat.le_refl _
 | k+1,b=>by rw[pT,List.length_append];have:=pT_len (to:=to) k b;split<;>simp<;>omega
def fr(m:Mk)(j:Nat):List (List Int):=(ix m.bs j).Phis.map (fun p=>p.In.map (fun x=>x.From))
theorem fr_add{j:Int}{i:D.Ins}{m:Mk}(q:Nat):fr (addS j i m) q=fr m q:=by
 show(ix (m.bs.set _ _) q).Phis.map _=_
 by_cases hj:j.toNat<m.bs.length
 ·rw[ix_set hj];split
  ·rename_i e;rw[e];rfl
  ·rfl
 ·rw[List.set_eq_of_length_le (by omega)];rfl
section
variable{n b c d:Nat}{to:List (List Int)}{m:Mk}
theorem blL_mem{nx:Int}:∀(l:List D.Block) (k:Nat),(∀x∈l,gB nx x)→∀t∈blL k l,∀x∈t.Makes,0≤x∧x<nx
 | [],_,_,t,ht,_,_=>by cases ht
 | y::l,k,h,t,ht,x,hx=>by
  have hy:=h y (by simp)
  rw[blL] at ht
  rcases List.mem_append.1 ht with h1|h1
  ·have:∀(ps:List D.Phi) (i:Nat),(∀p∈ps,gP nx p)→t∈phL k i ps→0≤x∧x<nx:=by
    intro ps
    induction ps with
    | nil=>intro i _ h;cases h
    | cons p ps ih =>
     intro i hp h
     rw[phL] at h
     rcases List.mem_cons.1 h with rfl|h
     ·simp[phT] at hx;subst hx;exact(hp p (by simp)).1
     ·exact ih _ (fun q hq=>hp q (by simp[hq])) h
   exact this _ _ hy.2.1 h1
  ·rcases List.mem_append.1 h1 with h1|h1
   ·have:∀(ps:List D.Ins) (i:Nat),(∀p∈ps,gI nx p)→t∈inL k i ps→0≤x∧x<nx:=by
     intro ps
     induction ps with
     | nil=>intro i _ h;cases h
     | cons p ps ih =>
      intro i hp h
      rw[inL] at h
      rcases List.mem_cons.1 h with rfl|h
      ·exact(hp p (by simp)).2.2.2.2.1 x hx
      ·exact ih _ (fun q hq=>hp q (by simp[hq])) h
    exact this _ _ hy.1 h1
   ·rcases List.mem_cons.1 h1 with rfl|h1
    ·cases hx
    ·exact blL_mem l (k+1) (fun z hz=>h z (by simp[hz])) t h1 x hx
theorem RI.all(h:RI n b c to m):∀x∈m.bs,gB m.nx x:=fun x hx=>by
 obtain⟨j,hj,e⟩:=List.getElem_of_mem hx
 have:=h.blk j (by rw[←h.len];exact hj)
 rw[ix_eq hj,e] at this;exact this
theorem RI.stand{p:Int}(h:RI n b c to m):∀x∈stand3 (fnM m) p,0≤x∧x<m.nx:=fun x hx=>by
 rcases List.mem_append.1 hx with h1|h1
 ·have:=numsL_mem h1
  have e:(fnM m).Params=m.par:=rfl
  rw[e] at this;have:=h.nx;have:=h.par;omega
 ·obtain⟨t,h2,h3⟩:=List.mem_flatMap.1 h1
  split at h3
  ·exact blL_mem m.bs 0 h.all t h2 x h3
  ·cases h3
theorem RI.ix0{p:Int}(h:RI n b c to m)(hp:0≤p∧p<n):RI n b (c+2) to (inX p m).2∧m.nx≤(inX p m).2.nx∧(inX p m).1.From=p∧(0≤(inX p m).1.Val∧(inX p m).1.Val<(inX p m).2.nx)∧∀q,fr (inX p m).2 q=fr m q:=by
 have hn:=h.nn
 unfold inX
 split
 ·have h1:=tV9 (n:=1) (by omega) (constS p (wordV m) (wordS m))
  refine⟨(h.word.const hp).take,?_,rfl,?_,fun q=>(fr_add (m:=freshS (wordS m)) q)⟩
  ·show m.nx≤m.nx+1;omega
  ·dsimp only
   rw[show tVV 1 (constS p (wordV m) (wordS m))=0 by omega]
   show 0≤m.nx∧m.nx<m.nx+1;omega
 ·rename_i h0
  have h1:=tV9 (n:=(stand3 (fnM m) p).length) (by omega) m
  refine⟨h.take.mono (by omega),Int.le_refl _,rfl,?_,fun q=>rfl⟩
  exact h.stand (p:=p) _ (ix_mem (by omega))
theorem RI.is0{p:List Int}(hp:∀x∈p,0≤x∧x<n):∀(k i:Nat) {c:Nat} (l:List D.In) (m:Mk),i+k=p.length→RI n b c to m→(∀x∈l,0≤x.Val∧x.Val<m.nx)→l.map (fun x=>x.From)=p.take i →
  RI n b (c+2*k) to (inS p k i l m).2∧m.nx≤(inS p k i l m).2.nx∧(∀x∈(inS p k i l m).1,0≤x.Val∧x.Val<(inS p k i l m).2.nx)∧(inS p k i l m).1.map (fun x=>x.From)=p∧∀q,fr (inS p k i l m).2 q=fr m q
 | 0,i,_,l,m,hi,h,hl,hf=>⟨h,Int.le_refl _,hl,by rw[inS,hf,List.take_of_length_le (by omega)],fun q=>rfl⟩
 | k+1,i,c,l,m,hi,h,hl,hf=>by
  obtain⟨a1,a2,a3,a4,a5⟩:=h.ix0 (p:=ix p i) (hp _ (ix_mem (by omega)))
  obtain⟨b1,b2,b3,b4,b5⟩:=RI.is0 hp k (i+1) (l++[(inX (ix p i) m).1]) (inX (ix p i) m).2 (by omega) a1 (fun x hx=>by
   rcases List.mem_append.1 hx with h1|h1
   ·have:=hl x h1;omega
   ·simp at h1;subst h1;exact a4) (by rw[List.map_append,hf,take_ix (by omega)];simp[a3])
  rw[inS]
  exact⟨b1.mono (by omega),by omega,b3,b4,fun q=>(b5 q).trans (a5 q)⟩
theorem nodup_put{ps:List D.Phi}{i:Nat}{l:List D.In}:(ps.set i { (ix ps i) with In:=l }).map (fun p=>p.Dst)=ps.map (fun p=>p.Dst):=by
 by_cases hi:i<ps.length
 ·rw[List.map_set]
  have:(ps.map (fun p=>p.Dst))[i]'(by simpa using hi)=(ix ps i).Dst:=by rw[ix_eq hi];simp
  rw[show({ (ix ps i) with In:=l }:D.Phi).Dst=(ps.map (fun p=>p.Dst))[i]'(by simpa using hi) from this.symm]
  exact List.set_getElem_self _
 ·rw[List.set_eq_of_length_le (by omega)]
theorem RI.pi0{j i:Nat}{l:List D.In}(h:RI n b c to m)(hj:j<n)(hl:∀x∈l,0≤x.Val∧x.Val<m.nx):RI n b c to (putIn j i l m) where
 len:=by show(m.bs.set _ _).length=n;rw[List.length_set];exact h.len
 par:=h.par
 nx:=h.nx
 cnt:=by
  have h1:cI (putIn j i l m).bs≤cI m.bs+0:=cI_set (l:=m.bs) (j:=j) (d:=0) (by exact Nat.le_refl _)
  have h2:=h.cnt
  omega
 lv:=h.lv
 blk:=fun q hq=>by
  show gB m.nx (ix (m.bs.set _ _) q)
  rw[ix_set (by rw[h.len];omega)];split
  ·have h0:=h.blk j hj
   refine⟨h0.1,fun p hp=>?_,h0.2.2.1,?_⟩
   ·rcases List.mem_or_eq_of_mem_set hp with h2|h2
    ·exact h0.2.1 p h2
    ·by_cases hi:i<(ix m.bs j).Phis.length
     ·subst h2;exact⟨(h0.2.1 _ (ix_mem hi)).1,hl⟩
     ·rw[List.set_eq_of_length_le (by omega)] at hp;exact h0.2.1 p hp
   ·show(((ix m.bs j).Phis.set i _).map (fun p=>p.Dst)).Nodup
    rw[nodup_put];exact h0.2.2.2
  ·exact h.blk q hq
 tos:=fun q hq=>by
  show(ix (m.bs.set _ _) q).Term.To=_
  rw[ix_set (by rw[h.len];omega)];split
  ·rename_i e;subst e;exact h.tos _ hq
  ·exact h.tos q hq
 kd:=fun q hb hq=>by
  show(ix (m.bs.set _ _) q).Term.Kind≠0
  rw[ix_set (by rw[h.len];omega)];split
  ·rename_i e;subst e;exact h.kd _ hb hq
  ·exact h.kd q hb hq
theorem fr_put{j i:Nat}{l:List D.In}(hj:j<m.bs.length)(q:Nat):fr (putIn j i l m) q=if q=j then (fr m j).set i (l.map (fun x=>x.From)) else fr m q:=by
 show(ix (m.bs.set _ _) q).Phis.map _=_
 rw[ix_set hj];split
 ·show((ix m.bs j).Phis.set i _).map _=_
  rw[List.map_set];rfl
 ·rfl
theorem RI.ip0{p:List Int}{j:Nat}(hp:∀x∈p,0≤x∧x<n)(h9:p.length≤9)(hj:j<n):∀(k i:Nat) {c:Nat} (m:Mk),RI n b c to m →
  RI n b (c+18*k) to (inP p j k i m)∧(∀q,q≠j→fr (inP p j k i m) q=fr m q)∧(fr (inP p j k i m) j).length=(fr m j).length ∧
  ∀i',i'<(fr m j).length→ix (fr (inP p j k i m) j) i'=if i≤i'∧i'<i+k then p else ix (fr m j) i'
 | 0,i,_,m,h=>⟨h,fun _ _=>rfl,rfl,fun i' _=>by rw[if_neg (by omega)];rfl⟩
 | k+1,i,c,m,h=>by
  obtain⟨a1,a2,a3,a4,a5⟩:=RI.is0 hp p.length 0 [] m (by omega) h (fun x hx=>by cases hx) rfl
  have h2:=a1.pi0 (i:=i) hj a3
  obtain⟨b1,b2,b3,b4⟩:=RI.ip0 hp h9 hj k (i+1) _ h2
  have e:=fr_put (m:=(inS p p.length 0 [] m).2) (i:=i) (l:=(inS p p.length 0 [] m).1) (by rw[a1.len];exact hj)
  rw[inP]
  have ej:=e j
  rw[if_pos rfl,a5 j,a4] at ej
  refine⟨b1.mono (by omega),fun q hq=>by rw[b2 q hq,e q,if_neg hq];exact a5 q,by rw[b3,ej,List.length_set],fun i' hi'=>?_⟩
  rw[b4 i' (by rw[ej,List.length_set];exact hi'),ej]
  by_cases h1:i+1≤i'∧i'<i+1+k
  ·rw[if_pos h1,if_pos (by omega)]
  ·rw[if_neg h1]
   by_cases h3:i'=i
   ·subst h3;rw[ix_set hi',if_pos rfl,if_pos (by omega)]
   ·by_cases h4:i<(fr m j).length
    ·rw[ix_set h4,if_neg h3,if_neg (by omega)]
    ·rw[List.set_eq_of_length_le (by omega),if_neg (by omega)]
theorem RI.fi0{ph:List Int}(hn9:n≤9)(hr:∀i,0≤ix ph i∧ix ph i≤3):∀(k j:Nat) {c:Nat} (m:Mk),j+k=n→RI n b c to m→(∀q,q<n→(fr m q).length=(ix ph q).toNat)→(∀q,q<j→∀x∈fr m q,x=pT to n q) →
  RI n b (c+54*k) to (finS ph k j m)∧∀q,q<n→∀x∈fr (finS ph k j m) q,x=pT to n q
 | 0,j,_,m,hj,h,hl,hd=>⟨h,fun q hq x hx=>hd q (by omega) x hx⟩
 | k+1,j,c,m,hj,h,hl,hd=>by
  have hpe:pd3 (fnM m) (j:Int)=pT to n (j:Int):=by
   show predsT3 m.bs m.bs.length _=_
   rw[h.len];exact preds_pT n _ (fun q hq=>h.tos q hq)
  obtain⟨b1,b2,b3,b4⟩:=RI.ip0 (p:=pT to n (j:Int)) (j:=j) (fun x hx=>pT_rng n _ x hx) (Nat.le_trans (pT_len n _) hn9) (by omega) (ix ph j).toNat 0 m h
  rw[finS,hpe]
  obtain⟨d1,d2⟩:=RI.fi0 hn9 hr k (j+1) (c:=c+54) (inP (pT to n (j:Int)) j (ix ph j).toNat 0 m) (by omega) (b1.mono (by have:=hr j;omega)) (fun q hq=>by
   by_cases e:q=j
   ·subst e;rw[b3];exact hl q hq
   ·rw[b2 q e];exact hl q hq) (fun q hq x hx=>by
   by_cases e:q=j
   ·subst e
    obtain⟨i,hi,e2⟩:=List.getElem_of_mem hx
    rw[b3] at hi
    have:=b4 i hi
    have hlq:=hl q (by omega)
    rw[if_pos (by omega),ix_eq (by rw[b3];exact hi),e2] at this
    exact this
   ·rw[b2 q e] at hx;exact hd q (by omega) x hx)
  exact⟨d1.mono (by omega),d2⟩
end
theorem pl_row{n:Nat}{to:List (List Int)}:∀(k b:Nat) (dn:List Bool) (m:Mk),pl (rowS n to k b dn m).2=pl m
 | 0,_,_,_=>rfl
 | k+1,b,dn,m=>by
  rw[rowS];split
  ·refine(pl_row k _ _ _).trans ?_
   unfold blkM
   exact pl_end.trans (pl_insN _ _)
  ·exact pl_row k _ _ _
theorem pl_turn{n:Nat}{to:List (List Int)}:∀(k:Nat) (dn:List Bool) (m:Mk),pl (turnS n to k dn m).2=pl m
 | 0,_,_=>rfl
 | k+1,dn,m=>by rw[turnS];exact(pl_turn k _ _).trans (pl_row _ _ _ _)
theorem pl_inX{p:Int}{m:Mk}:pl (inX p m).2=pl m:=by unfold inX;split;exact pl_const (m:=wordS m);rfl
theorem pl_inS{p:List Int}:∀(k i:Nat) (l:List D.In) (m:Mk),pl (inS p k i l m).2=pl m
 | 0,_,_,_=>rfl
 | k+1,i,l,m=>by rw[inS];exact(pl_inS k _ _ _).trans pl_inX
theorem pl_inP{p:List Int}{j:Nat}:∀(k i:Nat) (m:Mk),pl (inP p j k i m)=pl m
 | 0,_,_=>rfl
 | k+1,i,m=>by rw[inP];exact(pl_inP k _ _).trans (pl_putIn.trans (pl_inS _ _ _ _))
theorem pl_fin{ph:List Int}:∀(k j:Nat) (m:Mk),pl (finS ph k j m)=pl m
 | 0,_,_=>rfl
 | k+1,j,m=>by rw[finS];exact(pl_fin k _ _).trans (pl_inP _ _ _)
theorem ix_rep0{n j:Nat}:ix (List.replicate n (0:Int)) j=0:=by by_cases hj:j<n<;>simp[ix,hj]
theorem phiR_ne{b j:Nat}{ph:List Int}{m:Mk}(h:j≠b):ix (phiR b ph m) j=ix ph j:=by
 have:∀x:Int,ix (ph.set b x) j=ix ph j:=fun x=>by
  by_cases hb:b<ph.length
  ·rw[ix_set hb,if_neg h]
  ·rw[List.set_eq_of_length_le (by omega)]
 unfold phiR;(repeat' split)<;>first|rfl|exact this _
theorem phiS_zero:∀(k j:Nat) (ph:List Int) (m:Mk),1≤j→ix ph 0=0→ix (phiS k j ph m).1 0=0
 | 0,_,_,_,_,h=>h
 | k+1,j,ph,m,hj,h=>by rw[phiS];exact phiS_zero k (j+1) _ _ (by omega) (by rw[phiR_ne (by omega)];exact h)
structure Right3(n:Nat)(to:List (List Int))(f:D.Func)(nx:Int):Prop where
 n1:1≤n∧n≤9
 len:f.Blocks.length=n
 par:0≤f.Params∧f.Params≤4
 nxb:f.Params≤nx∧nx≤1560
 cnt:cI f.Blocks≤1560
 blk:∀j,j<n→gB nx (ix f.Blocks j)
 tos:∀j,j<n→(ix f.Blocks j).Term.To=ix to j
 kd:∀j,j<n→(ix f.Blocks j).Term.Kind≠0
 tr:TR n 30 to
 pb:PB n to
 ph0:(ix f.Blocks 0).Phis=[]
 ph3:∀j,j<n→(ix f.Blocks j).Phis.length≤3
 fr:∀j,j<n→∀p∈(ix f.Blocks j).Phis,p.In.map (fun x=>x.From)=pT to n j
theorem made3_right(s:List Int):∃nx,Right3 (mdN s).toNat (mdT s).1 (made3 s) nx:=by
 obtain⟨h0,t1,t2,hn,hp0⟩:=mdB_RI s
 obtain⟨p1,p2,p3⟩:=RI.ps ((mdN s).toNat-1) 1 4 (List.replicate (mdN s).toNat 0) (mdB s) (by omega) (by simp) (fun j=>rng_rep j) hp0 h0
 have p3:∀i,0≤ix (mdH s).1 i∧ix (mdH s).1 i≤3:=p3
 have p2:phiOK (mdN s).toNat (mdH s).1 (mdH s).2:=p2
 have h1:RI (mdN s).toNat 0 31 (mdT s).1 (mdH s).2:=p1.mono (by omega)
 have h2:RI (mdN s).toNat (mdN s).toNat 1111 (mdT s).1 (mdD s).2:=(h1.turn t2 (fun j=>Nat.le_trans (t1.2.1 j) (by omega)) (by omega)).mono (by omega)
 have hpl:pl (mdD s).2=pl (mdH s).2:=pl_turn _ _ _
 have hfl:∀q,(fr (mdD s).2 q).length=(ix (mdD s).2.bs q).Phis.length:=fun q=>by unfold fr;rw[List.length_map]
 have hlen:∀q,q<(mdN s).toNat→(fr (mdD s).2 q).length=(ix (mdH s).1 q).toNat:=fun q hq=>by
  rw[hfl,pl_get hpl,p2.1 q];exact if_pos hq
 have hz:ix (mdH s).1 0=0:=phiS_zero _ _ _ _ (by omega) (by rw[ix_rep0])
 obtain⟨f1,f2⟩:=RI.fi0 (ph:=(mdH s).1) hn.2 p3 ((mdN s).toNat-1) 1 (mdD s).2 (by omega) h2 hlen (fun q hq x hx=>by
  have:(fr (mdD s).2 q).length=0:=by rw[hlen q (by omega),show q=0 by omega,hz];rfl
  rw[List.eq_nil_of_length_eq_zero this] at hx;cases hx)
 have f1:RI (mdN s).toNat (mdN s).toNat 1543 (mdT s).1 (mdF s):=f1.mono (by omega)
 have hl3:∀q,q<(mdN s).toNat→(ix (mdF s).bs q).Phis.length=(ix (mdH s).1 q).toNat:=fun q hq=>by
  have e9:pl (mdF s)=pl (mdD s).2:=pl_fin _ _ _
  rw[pl_get e9,pl_get hpl,p2.1 q];exact if_pos hq
 exact⟨(mdF s).nx,hn,f1.len,f1.par,by have:=f1.nx;exact⟨this.1,by omega⟩,by have:=f1.cnt;exact Nat.le_trans this (by omega),f1.blk,f1.tos,fun j hj=>f1.kd j hj hj,t1,t2,
  List.eq_nil_of_length_eq_zero ((hl3 0 (by omega)).trans (by rw[hz];rfl)),fun j hj=>by have:=hl3 j hj;have:=p3 j;show(ix (mdF s).bs j).Phis.length≤3;omega,fun j hj p hp=>f2 j hj _ (List.mem_map.2 ⟨p,hp,rfl⟩)⟩
def Rg(r:Int):Prop:=0≤r∧r<8192
theorem regM_of:∀{l:List Int},(∀r∈l,Rg r)→regM l=true
 | [],_=>rfl
 | x::l,h=>by
  have:=h x (by simp)
  unfold Rg at this
  rw[regM,if_neg (by omega)];exact regM_of (fun r hr=>h r (by simp[hr]))
theorem insE0{i:D.Mach}(h1:¬(i.Op<1∨29<i.Op∨i.Op=2∨(i.Op=28∧4<i.Args.length)))(hm:∀r∈makesM i,Rg r)(ht:∀r∈takesM i,Rg r)(h29:¬(i.Op=29∧i.D=i.E))(hi:immM i=true):insE i=0:=by
 unfold insE
 rw[if_neg h1,regM_of hm,regM_of ht,if_neg (by simp),if_neg h29,hi,if_neg (by simp)]
section
variable{d e a b c x op:Int}{l:List Int}
theorem e_mov(hd:Rg d)(ha:Rg a):insE ⟨1,d,0,a,0,0,0,[]⟩=0 :=
 insE0 (by dsimp only;omega) (fun r hr=>by simp[makesM] at hr;subst hr;exact hd) (fun r hr=>by simp[takesM] at hr;subst hr;exact ha) (by dsimp only;omega) rfl
theorem e_li(hd:Rg d)(hx:smallQ x=true):insE ⟨3,d,0,0,0,0,x,[]⟩=0 :=
 insE0 (by dsimp only;omega) (fun r hr=>by simp[makesM] at hr;subst hr;exact hd) (fun r hr=>by simp[takesM] at hr) (by dsimp only;omega) (by
  unfold smallQ at hx;simp at hx
  unfold immM;rw[if_pos rfl];unfold fitsM;rw[if_neg (by omega),if_neg (by omega)]
  rw[show(2:Int)^((16:Int)-1).toNat=32768 by decide,decide_eq_true_eq];dsimp only;omega)
theorem e_liw(hd:Rg d):insE ⟨4,d,0,0,0,0,x,[]⟩=0 :=
 insE0 (by dsimp only;omega) (fun r hr=>by simp[makesM] at hr;subst hr;exact hd) (fun r hr=>by simp[takesM] at hr) (by dsimp only;omega) rfl
theorem e_two(ho:5≤op∧op≤17)(hd:Rg d)(ha:Rg a)(hb:Rg b):insE ⟨op,d,0,a,b,0,0,[]⟩=0 :=
 insE0 (by dsimp only;omega) (fun r hr=>by
  unfold makesM at hr
  rw[if_neg (by dsimp only;omega),if_neg (by dsimp only;omega),if_neg (by dsimp only;omega)] at hr
  simp at hr;subst hr;exact hd) (fun r hr=>by
  unfold takesM at hr
  rw[if_neg (by dsimp only;omega),if_pos (by dsimp only;omega)] at hr
  simp at hr;rcases hr with rfl|rfl<;>assumption) (by dsimp only;omega) (by
  unfold immM;rw[if_neg (by dsimp only;omega),if_neg (by dsimp only;omega),if_neg (by dsimp only;omega),if_neg (by dsimp only;omega)])
theorem e_addi(hd:Rg d)(ha:Rg a)(hx:x=100∨x=-100):insE ⟨18,d,0,a,0,0,x,[]⟩=0 :=
 insE0 (by dsimp only;omega) (fun r hr=>by simp[makesM] at hr;subst hr;exact hd) (fun r hr=>by simp[takesM] at hr;subst hr;exact ha) (by dsimp only;omega) (by rcases hx with rfl|rfl;(show fitsM 100 8=true;decide);(show fitsM (-100) 8=true;decide))
theorem e_shli(hd:Rg d)(ha:Rg a):insE ⟨20,d,0,a,0,0,0,[]⟩=0 :=
 insE0 (by dsimp only;omega) (fun r hr=>by simp[makesM] at hr;subst hr;exact hd) (fun r hr=>by simp[takesM] at hr;subst hr;exact ha) (by dsimp only;omega) rfl
theorem e_madd(hd:Rg d)(ha:Rg a)(hb:Rg b)(hc:Rg c):insE ⟨23,d,0,a,b,c,0,[]⟩=0 :=
 insE0 (by dsimp only;omega) (fun r hr=>by simp[makesM] at hr;subst hr;exact hd) (fun r hr=>by simp[takesM] at hr;rcases hr with rfl|rfl|rfl<;>assumption) (by dsimp only;omega) rfl
theorem immB(hx:byteQ x=true):decide (0≤x∧x≤255)=true:=by unfold byteQ at hx;simpa using hx
theorem e_ld(hd:Rg d)(ha:Rg a)(hx:byteQ x=true):insE ⟨24,d,0,a,0,0,x,[]⟩=0 :=
 insE0 (by dsimp only;omega) (fun r hr=>by simp[makesM] at hr;subst hr;exact hd) (fun r hr=>by simp[takesM] at hr;subst hr;exact ha) (by dsimp only;omega) (immB hx)
theorem e_st(ha:Rg a)(hb:Rg b)(hx:byteQ x=true):insE ⟨26,0,0,a,b,0,x,[]⟩=0 :=
 insE0 (by dsimp only;omega) (fun r hr=>by simp[makesM] at hr) (fun r hr=>by simp[takesM] at hr;rcases hr with rfl|rfl<;>assumption) (by dsimp only;omega) (immB hx)
theorem e_ldx(hd:Rg d)(ha:Rg a)(hb:Rg b):insE ⟨25,d,0,a,b,0,0,[]⟩=0 :=
 insE0 (by dsimp only;omega) (fun r hr=>by simp[makesM] at hr;subst hr;exact hd) (fun r hr=>by simp[takesM] at hr;rcases hr with rfl|rfl<;>assumption) (by dsimp only;omega) rfl
theorem e_stx(ha:Rg a)(hb:Rg b)(hc:Rg c):insE ⟨27,0,0,a,b,c,0,[]⟩=0 :=
 insE0 (by dsimp only;omega) (fun r hr=>by simp[makesM] at hr) (fun r hr=>by simp[takesM] at hr;rcases hr with rfl|rfl|rfl<;>assumption) (by dsimp only;omega) rfl
theorem e_call(hd:Rg d)(hl:l.length≤4)(ha:∀r∈l,Rg r):insE ⟨28,d,0,0,0,0,x,l⟩=0 :=
 insE0 (by dsimp only;omega) (fun r hr=>by simp[makesM] at hr;subst hr;exact hd) (fun r hr=>by simp[takesM] at hr;exact ha r hr) (by dsimp only;omega) rfl
theorem e_mulw(hd:Rg d)(he:Rg e)(hn:d≠e)(ha:Rg a)(hb:Rg b):insE ⟨29,d,e,a,b,0,0,[]⟩=0 :=
 insE0 (by dsimp only;omega) (fun r hr=>by simp[makesM] at hr;rcases hr with rfl|rfl<;>assumption) (fun r hr=>by simp[takesM] at hr;rcases hr with rfl|rfl<;>assumption) (by dsimp only;omega) rfl
end
def QI(a d:Nat)(m:Mq):Prop:=(0≤m.nx∧m.nx≤a)∧m.l.length≤d∧∀i∈m.l,insE i=0
section
variable{a d:Nat}{m:Mq}{r:Int}
theorem QI.mono{a' d':Nat}(h:QI a d m)(h1:a≤a')(h2:d≤d'):QI a' d' m:=⟨by have:=h.1;omega,by have:=h.2.1;omega,h.2.2⟩
theorem QI.take(h:QI a d m):QI a d (takeQ m):=h
theorem QI.temp(h:QI a d m):QI (a+1) d (tempQ m):=⟨by have:=h.1;show 0≤m.nx+1∧m.nx+1≤_;omega,h.2⟩
theorem QI.put{i:D.Mach}(h:QI a d m)(hi:insE i=0):QI a (d+1) (putQ i m):=⟨h.1,by show(m.l++[i]).length≤_;rw[List.length_append];have:=h.2.1;simp;omega,fun y hy=>by
 rcases List.mem_append.1 (show y∈m.l++[i] from hy) with h1|h1
 ·exact h.2.2 y h1
 ·simp at h1;subst h1;exact hi⟩
theorem QI.rg(h:QI a d m)(ha:a<8192):Rg m.nx:=by have:=h.1;unfold Rg;omega
theorem QI.cop(h:QI a d m)(ha:a<8000)(hr:Rg r):QI (a+1) (d+1) (copQ r m)∧Rg (copV r m):=by
 unfold copQ copV;split
 ·exact⟨h.take.mono (by omega) (by omega),hr⟩
 ·exact⟨h.take.temp.put (e_mov (h.rg (by omega)) hr),h.rg (by omega)⟩
theorem QI.word{x:Int}(h:QI a d m)(hr:Rg r):QI a (d+1) (wordQ r x m):=by
 have h0:QI a d (wordQ0 x m):=by unfold wordQ0;split<;>exact h
 unfold wordQ;split
 ·rename_i hc;exact h0.put (e_li hr hc.1)
 ·exact h0.put (e_liw hr)
theorem QI.tw3{x:D.Ins}{p q:Int}(h:QI a d m)(ha:a<8000)(ho:2≤x.Op∧x.Op≤14)(hx:Rg x.Dst)(hp:Rg p)(hq:Rg q):QI (a+2) (d+3) (two3 x p q m):=by
 have hn:=h.rg (by omega)
 have hn1:Rg (m.nx+1):=by have:=h.1;unfold Rg;omega
 unfold two3 opQ
 repeat' split
 ·exact((h.take.temp.temp.put (e_two (by omega) hn hp hq)).put (e_addi hn1 hn (.inl rfl))).put (e_addi hx hn1 (.inr rfl))
 ·exact((h.take.temp.put (e_two (by omega) hn hp hq)).put (e_shli hx hn)).mono (by omega) (by omega)
 ·exact((h.take.temp.word hn).put (e_madd hx hp hq hn)).mono (by omega) (by omega)
 ·exact(h.take.put (e_two (by omega) hx hp hq)).mono (by omega) (by omega)
theorem QI.two{x:D.Ins}(h:QI a d m)(ha:a<7990)(ho:2≤x.Op∧x.Op≤14)(hx:Rg x.Dst)(hp:Rg (ix x.Args 0))(hq:Rg (ix x.Args 1)):QI (a+4) (d+5) (twoQ x m):=by
 have h1:=h.cop (by omega) hp
 have h2:=h1.1.cop (by omega) hq
 exact(h2.1.tw3 (by omega) ho hx h1.2 h2.2).mono (by omega) (by omega)
theorem QI.mem2{x:D.Ins}{p:Int}(h:QI a d m)(ha:a<7990)(ho:x.Op=15∧Rg x.Dst∨x.Op=16∧Rg (ix x.Args 1))(hp:Rg p):QI (a+1) (d+2) (mem2Q x p m):=by
 have hn:=h.rg (by omega)
 have h0:QI a d (memQ0 x.Imm m):=by unfold memQ0;split<;>exact h
 have e0:(memQ0 x.Imm m).nx=m.nx:=by unfold memQ0;split<;>rfl
 unfold mem2Q
 split
 ·rename_i hc
  split
  ·rename_i h15
   exact(h.take.put (e_ld (ho.elim (fun h=>h.2) (fun h=>by omega)) hp hc.1)).mono (by omega) (by omega)
  ·rename_i h15
   exact(h.take.put (e_st hp (ho.elim (fun h=>by omega) (fun h=>h.2)) hc.1)).mono (by omega) (by omega)
 split
 ·exact(h0.temp.word hn).put (e_ldx (ho.elim (fun h=>h.2) (fun h=>by omega)) hp hn)
 ·exact(h0.temp.word hn).put (e_stx hp hn (ho.elim (fun h=>by omega) (fun h=>h.2)))
theorem QI.ins{x:D.Ins}{n:Int}(h:QI a d m)(ha:a<7980)(hg:gI n x)(hn:n≤8192):QI (a+4) (d+5) (insQ x m):=by
 obtain⟨g1,g2,g3,g4,g5,g6⟩:=hg
 have hA:∀r∈x.Args,Rg r:=fun r hr=>by have:=g4 r hr;unfold Rg;omega
 have hM:∀r∈makes3 x,Rg r:=fun r hr=>by have:=g5 r hr;unfold Rg;omega
 have hD:x.Op≠16→Rg x.Dst:=fun h=>hM _ (by unfold makes3;rw[if_neg h];split<;>simp)
 unfold insQ
 split
 ·exact(h.word (hD (by omega))).mono (by omega) (by omega)
 split
 ·rename_i h1
  have hl:1≤x.Args.length:=by omega
  have h2:=h.cop (r:=ix x.Args 0) (by omega) (hA _ (ix_mem (by omega)))
  refine(h2.1.mem2 (by omega) ?_ h2.2).mono (by omega) (by omega)
  rcases h1 with h1|h1
  ·exact .inl ⟨h1,hD (by omega)⟩
  ·exact .inr ⟨h1,hA _ (ix_mem (by omega))⟩
 split
 ·exact(h.put (e_call (hD (by omega)) g3 hA)).mono (by omega) (by omega)
 split
 ·rename_i h18
  have hl:2≤x.Args.length:=by omega
  exact(h.put (e_mulw (hD (by omega)) (hM _ (by unfold makes3;rw[if_neg (by omega),if_pos h18];simp)) (g6 h18) (hA _ (ix_mem (by omega))) (hA _ (ix_mem (by omega))))).mono (by omega) (by omega)
 ·have hl:2≤x.Args.length:=by omega
  exact h.two (by omega) (by omega) (hD (by omega)) (hA _ (ix_mem (by omega))) (hA _ (ix_mem (by omega)))
theorem QI.inss{n:Int}(hn:n≤8192):∀(l:List D.Ins) (a d:Nat) (m:Mq),QI a d m→a+4*l.length<7980→(∀i∈l,gI n i)→QI (a+4*l.length) (d+5*l.length) (insQs l m)
 | [],_,_,_,h,_,_=>h
 | x::l,a,d,m,h,ha,hg=>by
  rw[List.length_cons] at ha ⊢
  exact(QI.inss hn l (a+4) (d+5) _ (h.ins (by omega) (hg x (by simp)) hn) (by omega) (fun i hi=>hg i (by simp[hi]))).mono (by omega) (by omega)
theorem QI.en{t:D.Term}{n:Int}(h:QI a d m)(ha:a<7980)(hg:gT n t)(hn:n≤8192):QI (a+1) (d+1) (endQ t m):=by
 have hA:∀r∈t.Args,Rg r:=fun r hr=>by have:=hg.2.1 r hr;unfold Rg;omega
 unfold endQ
 repeat' split
 ·exact h.take.mono (by omega) (by omega)
 ·exact(h.take.temp.word (h.rg (by omega)))
 ·rename_i h4;exact(h.cop (by omega) (hA _ (ix_mem (by omega)))).1
 ·exact h.mono (by omega) (by omega)
theorem end_right{t:D.Term}{n:Int}{k:Nat}(h:QI a d m)(ha:a<7980)(hg:gT n t)(hn:n≤8192)(hk:∀x∈t.To,1≤x∧x<k):endE (endV t m) k=0∧(∀x,x∈(endV t m).To↔x∈t.To)∧(endV t m).To.length=t.To.length:=by
 have hA:∀r∈t.Args,Rg r:=fun r hr=>by have:=hg.2.1 r hr;unfold Rg;omega
 have hA0:1≤t.Args.length→Rg (ix t.Args 0):=fun h=>hA _ (ix_mem (by omega))
 have hr:=h.rg (by omega)
 have hany:∀l:List Int,(∀x,x∈l→x∈t.To)→anyM l (badB k)=false:=fun l hl=>by
  unfold anyM;rw[List.any_eq_false];intro x hx;have:=hk x (hl x hx);unfold badB;simp;omega
 have hE:∀e:D.End,toM e=true→(∀r∈nM9 e,Rg r)→(∀x,x∈e.To→x∈t.To)→endE e k=0:=fun e h1 h2 h3=>by
  unfold endE;rw[h1,if_neg (by simp),regM_of h2,if_neg (by simp),hany _ h3,if_neg (by simp)]
 obtain⟨g1,_,g2,g3,g4,g5⟩:=hg
 unfold endV
 split
 ·rename_i h1
  have:=g2 h1
  exact⟨hE _ (by unfold toM limLo limHi;simp;omega) (fun r hr=>by simp[nM9] at hr) (fun x h=>h),fun x=>Iff.rfl,rfl⟩
 split
 ·rename_i h2
  obtain⟨g6,g7⟩:=g3 h2
  repeat' split
  ·exact⟨hE _ (by unfold toM limLo limHi;simp;omega) (fun r hr=>by simp[nM9] at hr;subst hr;exact hA0 g7) (fun x h=>h),fun x=>Iff.rfl,rfl⟩
  ·have hm:∀x,x∈[ix t.To 1,ix t.To 0]↔x∈t.To:=by
    obtain⟨y,z,e⟩:∃y z,t.To=[y,z]:=by
     match h9:t.To,g6 with
     | [y,z],_=>exact⟨y,z,rfl⟩
    rw[e];intro x;simp[ix];exact or_comm
   exact⟨hE _ (by unfold toM limLo limHi;simp) (fun r h3=>by simp[nM9] at h3;rcases h3 with rfl|rfl;exact hr;exact hA0 g7) (fun x h=>(hm x).1 h),hm,by rw[g6];rfl⟩
  ·exact⟨hE _ (by unfold toM limLo limHi;simp;omega) (fun r h3=>by simp[nM9] at h3;rcases h3 with rfl|rfl;exact hr;exact hA0 g7) (fun x h=>h),fun x=>Iff.rfl,rfl⟩
 split
 ·rename_i h3
  obtain⟨g6,g7,g8⟩:=g4 h3
  exact⟨hE _ (by unfold toM limLo limHi;simp;omega) (fun r hr=>by simp[nM9] at hr;subst hr;exact hA0 g8) (fun x h=>h),fun x=>Iff.rfl,rfl⟩
 split
 ·rename_i h4
  have e:=g5 (by omega)
  split
  ·exact⟨hE _ (by unfold toM limLo limHi;simp[e]) (fun r hr=>by simp[nM9] at hr) (fun x h=>h),fun x=>Iff.rfl,rfl⟩
  ·rename_i h5
   exact⟨hE _ (by unfold toM limLo limHi;simp[e]) (fun r hr=>by simp[nM9] at hr;rw[hr.2];exact(h.cop (by omega) (hA0 (by omega))).2) (fun x h=>h),fun x=>Iff.rfl,rfl⟩
 ·have e:=g5 (by omega)
  exact⟨hE _ (by unfold toM limLo limHi;simp[e]) (fun r hr=>by simp[nM9] at hr) (fun x h=>h),fun x=>Iff.rfl,rfl⟩
end
structure MB(k:Nat)(x:D.Block)(y:D.MBlock):Prop where
 ph:y.Phis=x.Phis
 il:y.Ins.length≤5*x.Ins.length+1
 ins:∀i∈y.Ins,insE i=0
 en:endE y.End k=0
 to:∀z,z∈y.End.To↔z∈x.Term.To
 tl:y.End.To.length=x.Term.To.length
theorem ofQ_all{n:Int}{k:Nat}(hn:n≤8192):∀(l:List D.Block) (a d:Nat) (m:Mq),QI a d m→a+4*cI l+l.length<7980→(∀x∈l,gB n x∧x.Term.Kind≠0∧x.Phis.length≤3∧∀z∈x.Term.To,1≤z∧z<k) →
  (ofQ l m).length=l.length∧cntB (ofQ l m)≤5*cI l+5*l.length∧∀j,j<l.length→MB k (ix l j) (ix (ofQ l m) j)
 | [],_,_,_,_,_,_=>⟨rfl,Int.le_refl _,fun j hj=>by cases hj⟩
 | x::l,a,d,m,h,ha,hg=>by
  obtain⟨g1,g2,g3,g4⟩:=hg x (by simp)
  rw[cI,List.length_cons] at ha
  have hT:gT n x.Term:=g1.2.2.1.resolve_left g2
  have h0:QI a 0 (resQ m):=⟨h.1,Nat.le_refl _,fun i hi=>by cases hi⟩
  have h1:QI (a+4*x.Ins.length) (0+5*x.Ins.length) (blkQm x m):=QI.inss hn x.Ins a 0 _ h0 (by omega) g1.1
  have h2:QI (a+4*x.Ins.length+1) (0+5*x.Ins.length+1) (blkQt x m):=h1.en (by omega) hT hn
  obtain⟨e1,e2,e3⟩:=end_right h1 (by omega) hT hn g4
  obtain⟨r1,r2,r3⟩:=ofQ_all hn l _ _ _ h2 (by omega) (fun y hy=>hg y (by simp[hy]))
  have hB:MB k x (blkQv x m):=⟨rfl,by have:=h2.2.1;show(blkQt x m).l.length≤_;omega,h2.2.2,e1,e2,e3⟩
  rw[ofQ]
  refine⟨by simp[r1],?_,fun j hj=>?_⟩
  ·rw[cntB,cI,List.length_cons]
   have:=hB.il
   have e:(blkQv x m).Phis.length=x.Phis.length:=rfl
   omega
  ·cases j with
   | zero=>rw[ix_zero,ix_zero];exact hB
   | succ j=>rw[ix_cons,ix_cons];exact r3 j (by simpa using hj)
theorem topL_le{n:Int}:∀(l:List Int) (t:Int),(∀x∈l,x<n)→t≤n→topL l t≤n
 | [],_,_,h=>h
 | x::l,t,hx,h=>by
  rw[topL];refine topL_le l _ (fun y hy=>hx y (by simp[hy])) ?_
  have:=hx x (by simp)
  split<;>omega
theorem topT_le{n:Int}:∀(l:List D.Tg3) (t:Int),(∀g∈l,∀x∈g.Makes,x<n)→t≤n→topT l t≤n
 | [],_,_,h=>h
 | x::l,t,hx,h=>by rw[topT];exact topT_le l _ (fun y hy=>hx y (by simp[hy])) (topL_le _ _ (hx x (by simp)) h)
theorem insW_all:∀(l:List D.Mach) (k:Nat),(∀i∈l,insE i=0)→insW k l=none
 | [],_,_=>rfl
 | x::l,k,h=>by rw[insW,if_pos (h x (by simp))];exact insW_all l _ (fun i hi=>h i (by simp[hi]))
theorem phiW_all{P:List D.Phi}(hN:(P.map (fun p=>p.Dst)).Nodup)(hR:∀p∈P,Rg p.Dst∧∀x∈p.In,Rg x.Val):∀(l:List D.Phi) (k:Nat),P.drop k=l→phiW P k l=none
 | [],_,_=>rfl
 | x::l,k,h=>by
  have hk:k<P.length:=by
   rcases Nat.lt_or_ge k P.length with h1|h1
   ·exact h1
   ·rw[List.drop_of_length_le h1] at h;cases h
  rw[drop_ix hk] at h
  injection h with h1 h2
  rw[phiW,if_pos]
  ·exact phiW_all hN hR l (k+1) h2
  ·have hm:=hR x (by rw[←h1];exact ix_mem hk)
   unfold phiE
   rw[if_neg,if_neg]
   ·unfold anyM
    rw[Bool.not_eq_true,List.any_eq_false]
    intro y hy
    have h3:P=P.take k++(ix P k::P.drop (k+1)):=by rw[←drop_ix hk,List.take_append_drop]
    rw[h3,List.map_append,List.nodup_append] at hN
    have:=hN.2.2 y.Dst (List.mem_map.2 ⟨y,hy,rfl⟩) x.Dst (by rw[←h1];simp)
    simpa using this
   ·rw[regM_of (l:=[x.Dst]) (fun r hr=>by simp at hr;subst hr;exact hm.1)]
    have:anyM x.In (fun x=>!regM [x.Val])=false:=by
     unfold anyM;rw[List.any_eq_false];intro y hy
     rw[regM_of (l:=[y.Val]) (fun r hr=>by simp at hr;subst hr;exact hm.2 y hy)];simp
    rw[this];simp
theorem things_of{n:Int}:∀(l:List D.MBlock) (b:Nat),(∀x∈l,phiW x.Phis 0 x.Phis=none∧insW 0 x.Ins=none∧endE x.End n=0)→thingsW n b l=none
 | [],_,_=>rfl
 | x::l,b,h=>by
  obtain⟨h1,h2,h3⟩:=h x (by simp)
  have:blockW n x=none:=by unfold blockW;rw[h1,h2];exact if_pos h3
  rw[thingsW,this];exact things_of l _ (fun y hy=>h y (by simp[hy]))
theorem graph_of{bs:List D.MBlock}:∀(l:List D.MBlock) (k:Nat),(∀j,j<l.length→∀p∈(ix l j).Phis,badPhi bs (k+j) p=false)→(graphPhis bs k l).1=0
 | [],_,_=>rfl
 | x::l,k,h=>by
  have:x.Phis.findIdx? (badPhi bs k)=none:=by
   rw[List.findIdx?_eq_none_iff];intro p hp
   have:=h 0 (by simp) p (by rw[ix_zero];exact hp)
   simpa using this
  rw[graphPhis,this]
  exact graph_of l (k+1) (fun j hj p hp=>by
   have:=h (j+1) (by simpa using hj) p (by rw[ix_cons];exact hp)
   rw[show k+1+j=k+(j+1) by omega];exact this)
theorem preds_of{bs:List D.MBlock}{to:List (List Int)}{b:Int}:∀(k:Nat),(∀j,j<k→(b∈(ix bs j).End.To↔b∈ix to j))→predsT bs k b=pT to k b
 | 0,_=>rfl
 | k+1,h=>by
  have ih:=preds_of (bs:=bs) (to:=to) (b:=b) k (fun j hj=>h j (by omega))
  have hk:=h k (by omega)
  rw[pT,←ih]
  unfold predsT
  rw[List.range_succ,List.filter_append,List.map_append]
  congr 1
  by_cases h1:b∈ix to k
  ·rw[if_pos (by rw[List.any_eq_true];exact⟨b,h1,by simp⟩)]
   simp[hk.2 h1]
  ·rw[if_neg (by rw[Bool.not_eq_true,List.any_eq_false];intro y hy h2;simp at h2;subst h2;exact h1 hy)]
   have:¬b∈(ix bs k).End.To:=fun h2=>h1 (hk.1 h2)
   simp[this]
theorem of7_mb(s w:List Int):∃nx,Right3 (mdN s).toNat (mdT s).1 (made3 s) nx∧(of7 (made3 s) w).Blocks.length=(mdN s).toNat∧cntB (of7 (made3 s) w).Blocks≤8000∧∀j,j<(mdN s).toNat→MB (mdN s).toNat (ix (made3 s).Blocks j) (ix (of7 (made3 s) w).Blocks j):=by
 obtain⟨nx,h⟩:=made3_right s
 have hn:=h.nxb
 have hp:=h.par
 have hg:∀x∈(made3 s).Blocks,gB nx x:=fun x hx=>by
  obtain⟨j,hj,e⟩:=List.getElem_of_mem hx
  have:=h.blk j (by rw[←h.len];exact hj)
  rw[ix_eq hj,e] at this;exact this
 have ht:top3 (made3 s)≤nx:=topT_le _ _ (fun g hg' x hx=>(blL_mem _ _ hg g hg' x hx).2) (by omega)
 have ht0:=top3_rng (made3 s)
 have hc:=h.cnt
 have h1:=h.n1
 have hl:=h.len
 obtain⟨r1,r2,r3⟩:=ofQ_all (n:=nx) (k:=(mdN s).toNat) (by omega) (made3 s).Blocks 1560 0 ⟨w,0,max (top3 (made3 s)) (made3 s).Params,[]⟩ ⟨by dsimp only;omega,Nat.le_refl _,fun i hi=>by cases hi⟩ (by omega) (fun x hx=>by
  obtain⟨j,hj,e⟩:=List.getElem_of_mem hx
  have hj':j<(mdN s).toNat:=by rw[←h.len];exact hj
  have e2:ix (made3 s).Blocks j=x:=by rw[ix_eq hj];exact e
  refine⟨hg x hx,by rw[←e2];exact h.kd j hj',by rw[←e2];exact h.ph3 j hj',fun z hz=>?_⟩
  rw[←e2,h.tos j hj'] at hz
  exact h.tr.2.2 j z hz)
 refine⟨nx,h,r1.trans h.len,?_,fun j hj=>r3 j (by rw[h.len];exact hj)⟩
 show cntB (ofQ _ _)≤_
 omega
theorem made7_mb(s:List Int):∃nx,Right3 (mdN s).toNat (mdT s).1 (made3 s) nx∧(made7 s).Blocks.length=(mdN s).toNat∧cntB (made7 s).Blocks≤8000∧∀j,j<(mdN s).toNat→MB (mdN s).toNat (ix (made3 s).Blocks j) (ix (made7 s).Blocks j):=of7_mb s s.reverse
theorem right_mb{s:List Int}{nx:Int}{y7:D.MFunc}(h:Right3 (mdN s).toNat (mdT s).1 (made3 s) nx)(e:y7.Params=(made3 s).Params)(hl:y7.Blocks.length=(mdN s).toNat)(hc:cntB y7.Blocks≤16384)
  (hph:∀j,j<(mdN s).toNat→(ix y7.Blocks j).Phis=(ix (made3 s).Blocks j).Phis) (hins:∀j,j<(mdN s).toNat→∀i∈(ix y7.Blocks j).Ins,insE i=0) (hen:∀j,j<(mdN s).toNat→endE (ix y7.Blocks j).End (mdN s).toNat=0) (hto:∀j,j<(mdN s).toNat→∀z,z∈(ix y7.Blocks j).End.To↔z∈(ix (made3 s).Blocks j).Term.To):rightM y7=true:=by
 have h1:=h.n1
 have hp:=h.par
 have hall:∀x∈y7.Blocks,∃j,j<(mdN s).toNat∧x=ix y7.Blocks j:=fun x hx=>by
  obtain⟨j,hj,e⟩:=List.getElem_of_mem hx
  exact⟨j,by rw[←hl];exact hj,by rw[ix_eq hj];exact e.symm⟩
 have hT:∀x∈y7.Blocks,∀t∈x.End.To,1≤t∧t<y7.Blocks.length:=fun x hx t ht=>by
  obtain⟨j,hj,rfl⟩:=hall x hx
  rw[hto j hj,h.tos j hj] at ht
  rw[hl];exact h.tr.2.2 j t ht
 unfold rightM funcM
 rw[decide_eq_true_eq,if_neg (by omega),if_neg (by omega),if_neg (by omega),things_of _ _ (fun x hx=>by
  obtain⟨j,hj,rfl⟩:=hall x hx
  have hg:=h.blk j hj
  have hnx:=h.nxb
  refine⟨?_,insW_all _ _ (hins j hj),by rw[hl];exact hen j hj⟩
  rw[hph j hj]
  exact phiW_all hg.2.2.2 (fun p hp=>⟨by have:=(hg.2.1 p hp).1;unfold Rg;omega,fun x hx=>by have:=(hg.2.1 p hp).2 x hx;unfold Rg;omega⟩) _ 0 rfl)]
 show(graphM y7).1=0
 have hR:=reachedM_all (bs:=y7.Blocks) (by omega) hT (fun b h2 h3=>by
  rw[hl] at h3
  obtain⟨p,h4,h5⟩:=h.pb b h2 (by omega)
  refine⟨p,h4,?_⟩
  show(b:Int)∈(ix y7.Blocks p).End.To
  rw[hto p (by omega),h.tos p (by omega)];exact h5)
 have hi:idxM (reachedM y7.Blocks) (fun x=>false==x)=-1:=by
  unfold idxM
  have:(reachedM y7.Blocks).findIdx? (fun x=>false==x)=none:=by
   rw[List.findIdx?_eq_none_iff]
   intro x hx
   obtain⟨j,hj,e⟩:=List.getElem_of_mem hx
   have hlen:(reachedM y7.Blocks).length≤y7.Blocks.length:=reachedM_len _ hT
   have:=hR j (by omega)
   rw[ix_eq hj,e] at this
   rw[this];rfl
  rw[this]
 unfold graphM
 rw[hi,if_neg (by omega)]
 refine graph_of _ 0 (fun j hj p hp=>?_)
 rw[hl] at hj
 rw[hph j hj] at hp
 have hj0:j≠0:=by
  rintro rfl
  rw[h.ph0] at hp;cases hp
 have hf:=h.fr j hj p hp
 unfold badPhi
 rw[Nat.zero_add]
 have hpe:predsM y7.Blocks (j:Int)=pT (mdT s).1 (mdN s).toNat j:=by
  unfold predsM;rw[hl];exact preds_of _ (fun q hq=>by rw[hto q hq,h.tos q hq])
 rw[hpe]
 simp[hj0,hf]
theorem of7_right(s w:List Int):rightM (of7 (made3 s) w)=true:=by
 obtain⟨nx,h,hl,hc,hb⟩:=of7_mb s w
 exact right_mb h rfl hl (by omega) (fun j hj=>(hb j hj).ph) (fun j hj=>(hb j hj).ins) (fun j hj=>(hb j hj).en) (fun j hj=>(hb j hj).to)
theorem made7_right(s:List Int):rightM (made7 s)=true:=of7_right s s.reverse
end Go.Proofs.YtehhjlkmbdhckaaGreat
