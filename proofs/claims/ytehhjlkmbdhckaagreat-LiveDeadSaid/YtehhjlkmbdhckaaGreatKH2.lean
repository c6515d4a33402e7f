/- Lemmas that the claim is made of. Conditions: each lemma names its own. -/
import Derived.Test.YtehhjlkmbdhckaaGreatKH1
set_option linter.unusedSectionVars false
set_option linter.unusedSimpArgs false
set_option linter.unusedVariables false
namespace Go.Proofs.YtehhjlkmbdhckaaGreat
open Go.JE
abbrev U143:=@Tryz.underlying143
theorem E31:Ent Tryz.prog 31:=⟨_,Tryz.func31,by kernel_rfl,by kernel_rfl⟩
theorem E85:Ent Tryz.prog 85:=⟨_,Tryz.func85,by kernel_rfl,by kernel_rfl⟩
theorem E86:Ent Tryz.prog 86:=⟨_,Tryz.func86,by kernel_rfl,by kernel_rfl⟩
theorem E88:Ent Tryz.prog 88:=⟨_,Tryz.func88,by kernel_rfl,by kernel_rfl⟩
theorem E89:Ent Tryz.prog 89:=⟨_,Tryz.func89,by kernel_rfl,by kernel_rfl⟩
theorem F69_6:Fld Tryz.prog 69 6 6:=⟨_,_,Tryz.underlying69,rfl,rfl,1,(by unfold Sz;kernel_rfl),by decide⟩
theorem pSet_ct(r:Int)(x:Int){a2:Value}{regs:List Int}{g2:Nat}{B2:Nat}(hl:regs.length<1073741824)(ww1:IntKind.i32.wrap x=x):Tr Tryz.prog 85 #[.int .i64 r,.int .i32 x,.pointer (some ⟨g2,0,none⟩)] [] [gl B2 (rI .i32) 21 a2 regs,bx g2 72 [a2]] (fun _:Unit => .tuple #[]) (fun _=>[]) (fun _ _=>[gl B2 (rI .i32) 21 a2 (setM regs r x),bx g2 72 [a2]]):=by
 refine jenter (args:=[.int .i64 r,.int .i32 x,.pointer (some ⟨g2,0,none⟩)]) Tryz.func85 rfl rfl rfl fun w0 X=>?_
 refine cgo k0 fun w1=>jq (jr (jm Z (js (jgeq Z Z) (jm Z (jg Z Z (.t _) (fun hg=>jmv Z) (jg Z Z (.t _) (fun hg=>jl k1 O72 Z Z) (jg Z Z (.t _) (fun hg=>jlg U72 k0 (evg Z hg)) (jg Z Z (.t _) (fun hg=>jlss (evg Z hg) (evg Z hg)) (js (jand Z Z) (jn ?_))))))))))
 refine jx ?_
 refine jif Z (fun hc1=>?_) (fun hc1=>?_)
 refine jr (js (jl k1 O72 Z Z) (jm Z (jm Z (js (jig (i:=(Int.toNat r)) U72 Z21 k0 Z Z (by omega) (by omega)) (jsg k0 Z Z21 Z Z Z (by omega) (wI (wp ww1)) (jn ?_))))))
 exact jd0 Z () Z dn (fun _ _=>(kcg (by first|(simp[setM, *];done)|(unfold setM;rw[if_neg (by omega)];done)|(unfold setM;rw[if_pos (by omega)];done)) k0 (kc k0 kn)))
 refine jsk ?_
 exact jd0 Z () Z dn (fun _ _=>(kcg (by first|(simp[setM, *];done)|(unfold setM;rw[if_neg (by omega)];done)|(unfold setM;rw[if_pos (by omega)];done)) k0 (kc k0 kn)))
def DoJ(i:D.Mach)(regs mem:List Int)(v t:Int)(ok:Bool)(me:List Int):Prop:=(ok=true→stepM i regs mem=((0,true),setAllM regs (makesM i) v,me))∧(ok=false→stepM i regs mem=((if t=0 then -2 else t,false),regs,me))
theorem doJ1{i:D.Mach}{regs mem me:List Int}{v t:Int}{ok:Bool}(e:makesM i=[i.D])(h1:ok=true→stepM i regs mem=((0,true),setM regs i.D v,me))(h2:ok=false→stepM i regs mem=((if t=0 then -2 else t,false),regs,me)):DoJ i regs mem v t ok me:=⟨fun h=>by rw[h1 h,e];rfl,h2⟩
theorem doJ0{i:D.Mach}{regs mem me:List Int}{v t:Int}{ok:Bool}(e:makesM i=[])(h1:ok=true→stepM i regs mem=((0,true),regs,me))(h2:ok=false→stepM i regs mem=((if t=0 then -2 else t,false),regs,me)):DoJ i regs mem v t ok me:=⟨fun h=>by rw[h1 h,e];rfl,h2⟩
theorem doJ_end{i:D.Mach}{regs mem me rs:List Int}{v t:Int}{k:Nat}(h:DoJ i regs mem v t true me)(hR:setAllM regs (makesM i) v=setAllM rs ((makesM i).drop k) v)(hk:(makesM i).length≤k):stepM i regs mem=((0,true),rs,me):=by
 rw[h.1 rfl,hR,List.drop_of_length_le hk];rfl
set_option maxHeartbeats 4000000 in
theorem pDoM_ct{a0:Value}{i:D.Mach}{a1:Value}{regs:List Int}{B1:Nat}{a2:Value}{mem:List Int}{B2:Nat}(hl:regs.length<1073741824)(hl2:mem.length<1073741824):Tr Tryz.prog 58 #[vMach i a0,a1,a2] [da rMach (vMach i a0) i] [gl B1 (rI .i32) 21 a1 regs,gl B2 (rI .i32) 21 a2 mem] (fun _:Unit => .tuple #[.int .i32 ((stepM i regs mem).1.1),.bool ((stepM i regs mem).1.2)]) (fun _=>[]) (fun _ _=>[gl B1 (rI .i32) 21 a1 ((stepM i regs mem).2.1),gl B2 (rI .i32) 21 a2 ((stepM i regs mem).2.2)]):=by
 refine jenter (args:=[vMach i a0,a1,a2]) Tryz.func58 rfl rfl rfl fun w0 X=>?_
 refine cgo k0 fun w1=>cgo k1 fun w2=>jq (jr (jbox Z Z fun g3=>jbox Z w1.cells fun g4=>ja Z (ja Z (jn (jx (jq (jany false (.a 0 (.a 1 (.a 2 (.a 4 (.a 5 (.a 6 (.a 8 (.a 9 (.a 10 (.o 3 (.o 7 (.o 11 (.a 12 (.a 13 (.a 14 .e))))))))))))))) Mixed (by kernel_rfl) (kd kn) fun F3=>?_)))))))
 refine jy Z (jl k0 O72 Z Z) (jy Z (jf F69_3 Z) (jy Z (jl k1 O3 Z Z) (jy Z (jl k0 O72 Z Z) (jy Z (jf F69_4 Z) (jy Z (jl k1 O3 Z Z) (jy Z (jl k0 O72 Z Z) (jy Z (jf F69_5 Z) (jy Z (jl k1 O3 Z Z) (jyo Z (jc E59 Z Z (Tv.temp 1073741824 (pGet_ct i.A) (by omega)) dn (kc k2 kn) (fun _=>p0) (fun _=>p1) fun _=>jwr (wgt k0 i.A) fun w5=>?_))))))))))
 refine jyn d0 (kc k1 (kc k1 kn)) (jyo Z (jc E59 Z Z (Tv.temp 1073741824 (pGet_ct i.B) (by omega)) dn (kc k0 kn) (fun _=>p0) (fun _=>p1) fun _=>jyn d0 (kc k1 (kc k1 kn)) (jyo Z (jc E59 Z Z (Tv.temp 1073741824 (pGet_ct i.C) (by omega)) dn (kc k0 kn) (fun _=>p0) (fun _=>p1) fun _=>jyn d0 (kc k1 (kc k1 kn)) (jy Z (jas Z) (jy Z (jas Z) (jy Z (jas Z) (jyd (jx ?_)))))))))
 refine jq (jr (js (jmf1 Z) (ja Z (jn (jx (jq (jr (jm Z (ja Z (ja Z (ja Z ?_)))))))))))
 refine jn (jx (jq ?_))
 refine jjo (u4 fun(v:Int) (t:Int) (ok:Bool) (me:List Int)=>⟨IntKind.i32.wrap v=v∧me.length=mem.length∧DoJ i regs mem v t ok me,[da rMach (vMach i a0) i],[gl B1 (rI .i32) 21 a1 regs,bx g4 72 [a1],bx g3 69 [.int .i64 i.Op,.int .i64 i.D,.int .i64 i.E,.int .i64 i.A,.int .i64 i.B,.int .i64 i.C,.int .i32 i.Imm,a0],gl B2 (rI .i32) 21 a2 me],[(3,.pointer (some ⟨g3,0,none⟩)),(11,.func (.func 85) #[] #[.pointer (some ⟨g4,0,none⟩)]),(12,.int .i32 v),(13,.int .i32 t),(14,.bool ok)]⟩) ?_ ?_
 refine jb (jq (jr (js (jf F69_0 Z) (js (jl k2 O3 Z Z) (js (jeql Z Z) (ja Z (jn (jx ?_))))))))
 refine jif Z (fun hc1=>?_) (fun hc1=>?_)
 refine jsk (jbn ?_)
 exact jje (getM regs i.A,0,true,mem) ⟨by dsimp only;exact w5,by first|rfl|exact storeM_len _ _ _,by dsimp only;exact doJ1 (by unfold makesM;repeat rw[if_neg (by omega)]) (fun h9=>by(unfold stepM;(repeat rw[if_neg (by omega)])<;>(try rw[if_pos (by omega)])<;>first|rfl|(simp[*];done)|(simp[immOp, *];done)|simp_all)) (fun h9=>by(unfold stepM;(repeat rw[if_neg (by omega)])<;>(try rw[if_pos (by omega)])<;>first|rfl|(simp[*];done)|(simp[immOp, *];done)|simp_all))⟩ (dc d3 dn) (kd (kd kn)) ⟨Z,Z,Z,Z,Z,trivial⟩
 refine jq (jr (js (jf F69_0 Z) (js (jl k2 O3 Z Z) (js (jeql Z Z) (ja Z (jn (jx ?_)))))))
 refine jif Z (fun hc2=>?_) (fun hc2=>?_)
 refine jq (jr (jm Z (js (jf F69_3 Z) (js (jl k2 O3 Z Z) (jm Z (jwr (wgt k0 i.B) fun w9=>jc E85 Z Z (pSet_ct i.A (getM regs i.B) (by first|omega|(simp only[setM_len,storeM_len];omega)) w9) dn (kd kn) (fun _=>p0) (fun _=>p2) fun _=>jn (jx (jq (jr ?_)))))))))
 refine jm Z (js (jf F69_4 Z) (js (jl k2 O3 Z Z) (jm Z (jc E85 Z Z (pSet_ct i.B (getM regs i.A) (by first|omega|(simp only[setM_len,storeM_len];omega)) w5) dn (kd kn) (fun _=>p0) (fun _=>p2) fun _=>jn (jx (jq (jr (ja Z (ja Z (jn ?_))))))))))
 refine jx (jrt (jbr (jjr (jtr ?_))))
 have hm:stepM i regs mem=((0,true),setM (setM regs i.A (getM regs i.B)) i.B (getM regs i.A),mem):=(by unfold stepM;(repeat rw[if_neg (by omega)])<;>(try rw[if_pos (by omega)])<;>first|rfl|(simp[*];done)|(simp[immOp, *];done)|(exfalso;(try simp at hc1);(try simp at hc2);simp_all;done))
 exact jr2 Z Z Z () (by rw[hm]) dn (fun _ _=>(kcg (by rw[hm]) k0 (kcg (by rw[hm]) k2 kn)))
 refine jq (jr (js (jf F69_0 Z) (js (jl k2 O3 Z Z) (js (jeql Z Z) (jm Z (jg Z Z (.f _) (fun hg=>jf F69_0 Z) (jg Z Z (.f _) (fun hg=>jl k2 O3 (evg Z hg) Z) (jg Z Z (.f _) (fun hg=>jeql (evg Z hg) Z) (js (jor Z Z) (ja Z (jn ?_)))))))))))
 refine jx ?_
 refine jif Z (fun hc3=>?_) (fun hc3=>?_)
 refine jr (js (jf F69_6 Z) (js (jl k2 O21 Z Z) (ja Z (jn (jbn (qwr (rMach.W_Imm d3) fun w10=>?_))))))
 exact jje (i.Imm,0,true,mem) ⟨by dsimp only;exact w10,by first|rfl|exact storeM_len _ _ _,by dsimp only;exact doJ1 (by unfold makesM;repeat rw[if_neg (by omega)]) (fun h9=>by(unfold stepM;(repeat rw[if_neg (by omega)])<;>(try rw[if_pos (by omega)])<;>first|rfl|(simp[*];done)|(simp[immOp, *];done)|simp_all)) (fun h9=>by(unfold stepM;(repeat rw[if_neg (by omega)])<;>(try rw[if_pos (by omega)])<;>first|rfl|(simp[*];done)|(simp[immOp, *];done)|simp_all))⟩ (dc d3 dn) (kd (kd kn)) ⟨Z,Z,Z,Z,Z,trivial⟩
 refine jq (jr (js (jf F69_0 Z) (js (jl k2 O3 Z Z) (js (jgeq Z Z) (jm Z (jg Z Z (.t _) (fun hg=>jf F69_0 Z) (jg Z Z (.t _) (fun hg=>jl k2 O3 (evg Z hg) Z) (jg Z Z (.t _) (fun hg=>jleq (evg Z hg) Z) (js (jand Z Z) (ja Z (jn ?_)))))))))))
 refine jx ?_
 refine jif Z (fun hc4=>?_) (fun hc4=>?_)
 refine jq (jr (js (jf F69_0 Z) (js (jl k2 O3 Z Z) (js (jsub Z Z (by omega)) (js (jadd Z Z (by omega)) (jm Z (jm Z (jcv E86 Z Z (wDo_ct ((i.Op-5)+2) (getM regs i.A) (getM regs i.B)) dn kn (jm Z (js (jex' Z Z) (js (jex' Z Z) ?_)))))))))))
 refine ja Z (ja Z (jn (jx (jr (ja Z (jn (jbn (qwr (m:=((doM ((i.Op-5)+2) (getM regs i.A) (getM regs i.B)).1)) (wdo (wp w5)) fun w11=>?_))))))))
 exact jje ((doM ((i.Op-5)+2) (getM regs i.A) (getM regs i.B)).1,(-1),(doM ((i.Op-5)+2) (getM regs i.A) (getM regs i.B)).2,mem) ⟨by dsimp only;exact w11,by first|rfl|exact storeM_len _ _ _,by dsimp only;exact doJ1 (by unfold makesM;repeat rw[if_neg (by omega)]) (fun h9=>by(unfold stepM;(repeat rw[if_neg (by omega)])<;>(try rw[if_pos (by omega)])<;>first|rfl|(simp[*];done)|(simp[immOp, *];done)|simp_all)) (fun h9=>by(unfold stepM;(repeat rw[if_neg (by omega)])<;>(try rw[if_pos (by omega)])<;>first|rfl|(simp[*];done)|(simp[immOp, *];done)|simp_all))⟩ (dc d3 dn) (kd (kd kn)) ⟨Z,Z,Z,Z,Z,trivial⟩
 refine jq (jr (js (jf F69_0 Z) (js (jl k2 O3 Z Z) (js (jgeq Z Z) (jm Z (jg Z Z (.t _) (fun hg=>jf F69_0 Z) (jg Z Z (.t _) (fun hg=>jl k2 O3 (evg Z hg) Z) (jg Z Z (.t _) (fun hg=>jleq (evg Z hg) Z) (js (jand Z Z) (ja Z (jn ?_)))))))))))
 refine jx ?_
 refine jif Z (fun hc5=>?_) (fun hc5=>?_)
 refine jany false (.a 0 (.a 1 (.a 2 (.a 3 (.a 4 (.a 5 (.a 6 (.a 7 (.o 8 (.a 9 (.a 10 (.a 11 (.a 12 .e))))))))))))) Mixed (by kernel_rfl) (kc k2 kn) fun F12=>jy Z (jbu (v := .agg #[.int .i64 2,.int .i64 5,.int .i64 8,.int .i64 9,.int .i64 10]) Z (fun _=>by kernel_rfl)) (jy Z (jf F69_0 Z) (jy Z (jl k0 O3 Z Z) (jy Z (jsub Z Z (by omega)) (jy Z (jci (l:=[2,5,8,9,10]) U143 Z3 O3 Z Z ⟨by omega,by omega,Z⟩) (jy Z (jmv Z) (jy Z (jf F69_6 Z) (jy Z (jl k0 O21 Z Z) (jyo Z (jcv E86 Z Z (wDo_ct (ix [2,5,8,9,10] (Int.toNat (i.Op-18))) (getM regs i.A) i.Imm) dn kn (jyn d0 (kc k2 kn) ?_))))))))))
 refine jy Z (jmv Z) (jy Z (jex' Z Z) (jy Z (jex' Z Z) (jy Z (jas Z) (jyd (jbn (qwr (m:=((doM (ix [2,5,8,9,10] (Int.toNat (i.Op-18))) (getM regs i.A) i.Imm).1)) (wdo (wp w5)) fun w14=>?_))))))
 exact jje ((doM (ix [2,5,8,9,10] (Int.toNat (i.Op-18))) (getM regs i.A) i.Imm).1,0,true,mem) ⟨by dsimp only;exact w14,by first|rfl|exact storeM_len _ _ _,by dsimp only;exact doJ1 (by unfold makesM;repeat rw[if_neg (by omega)]) (fun h9=>by(unfold stepM;(repeat rw[if_neg (by omega)])<;>(try rw[if_pos (by omega)])<;>first|rfl|(simp[*];done)|(simp[immOp, *];done)|simp_all)) (fun h9=>by(unfold stepM;(repeat rw[if_neg (by omega)])<;>(try rw[if_pos (by omega)])<;>first|rfl|(simp[*];done)|(simp[immOp, *];done)|simp_all))⟩ (dc d4 dn) (kd (kd kn)) ⟨Z,Z,Z,Z,Z,trivial⟩
 refine jq (jr (js (jf F69_0 Z) (js (jl k2 O3 Z Z) (js (jeql Z Z) (ja Z (jn (jx ?_)))))))
 refine jif Z (fun hc6=>?_) (fun hc6=>?_)
 refine jr (jm Z (jm Z (js (jmulw Z Z) (jm Z (js (jaddw Z Z) (ja Z (jn (jbn ?_))))))))
 exact jje (IntKind.i32.wrap ((IntKind.i32.wrap ((getM regs i.A)*(getM regs i.B)))+(getM regs i.C)),0,true,mem) ⟨by dsimp only;exact(JE.wrap_wrap _ _),by first|rfl|exact storeM_len _ _ _,by dsimp only;exact doJ1 (by unfold makesM;repeat rw[if_neg (by omega)]) (fun h9=>by(unfold stepM;(repeat rw[if_neg (by omega)])<;>(try rw[if_pos (by omega)])<;>first|rfl|(simp[*];done)|(simp[immOp, *];done)|simp_all)) (fun h9=>by(unfold stepM;(repeat rw[if_neg (by omega)])<;>(try rw[if_pos (by omega)])<;>first|rfl|(simp[*];done)|(simp[immOp, *];done)|simp_all))⟩ (dc d3 dn) (kd (kd kn)) ⟨Z,Z,Z,Z,Z,trivial⟩
 refine jq (jr (js (jf F69_0 Z) (js (jl k2 O3 Z Z) (js (jeql Z Z) (ja Z (jn (jx ?_)))))))
 refine jif Z (fun hc7=>?_) (fun hc7=>?_)
 refine jr (jm Z (jm Z (js (jf F69_6 Z) (js (jl k2 O21 Z Z) (js (jaddw Z Z) (jc E87 Z Z (Tv.temp 1073741824 (pLoad_ct (IntKind.i32.wrap ((getM regs i.A)+i.Imm)) (JE.wrap_wrap _ _)) (by omega)) dn (kc k3 kn) (fun _=>p0) (fun _=>p1) fun _=>jm Z (js (jex' Z Z) (js (jex' Z Z) (ja Z (ja Z ?_))))))))))
 refine jn (jbn (qwr (m:=((loadM mem (IntKind.i32.wrap ((getM regs i.A)+i.Imm))).1)) (wld k0 (IntKind.i32.wrap ((getM regs i.A)+i.Imm))) fun w15=>?_))
 exact jje ((loadM mem (IntKind.i32.wrap ((getM regs i.A)+i.Imm))).1,0,(loadM mem (IntKind.i32.wrap ((getM regs i.A)+i.Imm))).2,mem) ⟨by dsimp only;exact w15,by first|rfl|exact storeM_len _ _ _,by dsimp only;exact doJ1 (by unfold makesM;repeat rw[if_neg (by omega)]) (fun h9=>by(unfold stepM;(repeat rw[if_neg (by omega)])<;>(try rw[if_pos (by omega)])<;>first|rfl|(simp[*];done)|(simp[immOp, *];done)|simp_all)) (fun h9=>by(unfold stepM;(repeat rw[if_neg (by omega)])<;>(try rw[if_pos (by omega)])<;>first|rfl|(simp[*];done)|(simp[immOp, *];done)|simp_all))⟩ (dc d3 dn) (kc k1 (kc k1 (kc k1 (kc k0 kn)))) ⟨Z,Z,Z,Z,Z,trivial⟩
 refine jq (jr (js (jf F69_0 Z) (js (jl k2 O3 Z Z) (js (jeql Z Z) (ja Z (jn (jx ?_)))))))
 refine jif Z (fun hc8=>?_) (fun hc8=>?_)
 refine jr (jm Z (jm Z (jm Z (js (jaddw Z Z) (jc E87 Z Z (Tv.temp 1073741824 (pLoad_ct (IntKind.i32.wrap ((getM regs i.A)+(getM regs i.B))) (JE.wrap_wrap _ _)) (by omega)) dn (kc k3 kn) (fun _=>p0) (fun _=>p1) fun _=>jm Z (js (jex' Z Z) (js (jex' Z Z) (ja Z (ja Z (jn ?_))))))))))
 refine jbn (qwr (m:=((loadM mem (IntKind.i32.wrap ((getM regs i.A)+(getM regs i.B)))).1)) (wld k0 (IntKind.i32.wrap ((getM regs i.A)+(getM regs i.B)))) fun w16=>?_)
 exact jje ((loadM mem (IntKind.i32.wrap ((getM regs i.A)+(getM regs i.B)))).1,0,(loadM mem (IntKind.i32.wrap ((getM regs i.A)+(getM regs i.B)))).2,mem) ⟨by dsimp only;exact w16,by first|rfl|exact storeM_len _ _ _,by dsimp only;exact doJ1 (by unfold makesM;repeat rw[if_neg (by omega)]) (fun h9=>by(unfold stepM;(repeat rw[if_neg (by omega)])<;>(try rw[if_pos (by omega)])<;>first|rfl|(simp[*];done)|(simp[immOp, *];done)|simp_all)) (fun h9=>by(unfold stepM;(repeat rw[if_neg (by omega)])<;>(try rw[if_pos (by omega)])<;>first|rfl|(simp[*];done)|(simp[immOp, *];done)|simp_all))⟩ (dc d3 dn) (kc k1 (kc k1 (kc k1 (kc k0 kn)))) ⟨Z,Z,Z,Z,Z,trivial⟩
 refine jq (jr (js (jf F69_0 Z) (js (jl k2 O3 Z Z) (js (jeql Z Z) (ja Z (jn (jx ?_)))))))
 refine jif Z (fun hc9=>?_) (fun hc9=>?_)
 refine jr (jm Z (jm Z (js (jf F69_6 Z) (js (jl k2 O21 Z Z) (js (jaddw Z Z) (jm Z (jwr (wgt k0 i.B) fun w17=>jc E88 Z Z (pStore_ct (IntKind.i32.wrap ((getM regs i.A)+i.Imm)) (getM regs i.B) (by first|omega|(simp only[setM_len,storeM_len];omega)) (JE.wrap_wrap _ _) w17) dn (kc k3 kn) (fun _=>p0) (fun _=>p1) fun _=>ja Z (jn (jbn ?_)))))))))
 exact jje (getM regs i.A,0,storeOk mem (IntKind.i32.wrap ((getM regs i.A)+i.Imm)) (getM regs i.B),storeM mem (IntKind.i32.wrap ((getM regs i.A)+i.Imm)) (getM regs i.B)) ⟨by dsimp only;exact w5,by first|rfl|exact storeM_len _ _ _,by dsimp only;exact doJ0 (by unfold makesM;(repeat rw[if_neg (by omega)])<;>(try rw[if_pos (by omega)])) (fun h9=>by(unfold stepM;(repeat rw[if_neg (by omega)])<;>(try rw[if_pos (by omega)])<;>first|rfl|(simp[*];done)|(simp[immOp, *];done)|simp_all)) (fun h9=>by(unfold stepM;(repeat rw[if_neg (by omega)])<;>(try rw[if_pos (by omega)])<;>first|rfl|(simp[*];done)|(simp[immOp, *];done)|simp_all))⟩ (dc d3 dn) (kc k1 (kc k1 (kc k1 (kc k0 kn)))) ⟨Z,Z,Z,Z,Z,trivial⟩
 refine jq (jr (js (jf F69_0 Z) (js (jl k2 O3 Z Z) (js (jeql Z Z) (ja Z (jn (jx ?_)))))))
 refine jif Z (fun hc10=>?_) (fun hc10=>?_)
 refine jr (jm Z (jm Z (jm Z (js (jaddw Z Z) (jm Z (jwr (wgt k0 i.C) fun w18=>jc E88 Z Z (pStore_ct (IntKind.i32.wrap ((getM regs i.A)+(getM regs i.B))) (getM regs i.C) (by first|omega|(simp only[setM_len,storeM_len];omega)) (JE.wrap_wrap _ _) w18) dn (kc k3 kn) (fun _=>p0) (fun _=>p1) fun _=>ja Z (jn (jbn ?_))))))))
 exact jje (getM regs i.A,0,storeOk mem (IntKind.i32.wrap ((getM regs i.A)+(getM regs i.B))) (getM regs i.C),storeM mem (IntKind.i32.wrap ((getM regs i.A)+(getM regs i.B))) (getM regs i.C)) ⟨by dsimp only;exact w5,by first|rfl|exact storeM_len _ _ _,by dsimp only;exact doJ0 (by unfold makesM;(repeat rw[if_neg (by omega)])<;>(try rw[if_pos (by omega)])) (fun h9=>by(unfold stepM;(repeat rw[if_neg (by omega)])<;>(try rw[if_pos (by omega)])<;>first|rfl|(simp[*];done)|(simp[immOp, *];done)|simp_all)) (fun h9=>by(unfold stepM;(repeat rw[if_neg (by omega)])<;>(try rw[if_pos (by omega)])<;>first|rfl|(simp[*];done)|(simp[immOp, *];done)|simp_all))⟩ (dc d3 dn) (kc k1 (kc k1 (kc k1 (kc k0 kn)))) ⟨Z,Z,Z,Z,Z,trivial⟩
 refine jq (jr (js (jf F69_0 Z) (js (jl k2 O3 Z Z) (js (jeql Z Z) (ja Z (jn (jx ?_)))))))
 refine jif Z (fun hc11=>?_) (fun hc11=>?_)
 refine jq (jr (jm Z (jm Z (jwr (wgt k0 i.B) fun w19=>jcv E89 Z Z (wWide_ct (getM regs i.A) (getM regs i.B) w5 w19) dn kn (jm Z (js (jex' Z Z) (js (jex' Z Z) (ja Z (ja Z (jn ?_))))))))))
 refine jx (jq (jr (jm Z (js (jf F69_1 Z) (js (jl k2 O3 Z Z) (jm Z (jc E85 Z Z (pSet_ct i.D ((wideM (getM regs i.A) (getM regs i.B)).1) (by first|omega|(simp only[setM_len,storeM_len];omega)) (JE.wrap_wrap _ _)) dn (kd kn) (fun _=>p0) (fun _=>p2) fun _=>jn (jx (jq (jr ?_))))))))))
 refine jm Z (js (jf F69_2 Z) (js (jl k2 O3 Z Z) (jm Z (jc E85 Z Z (pSet_ct i.E ((wideM (getM regs i.A) (getM regs i.B)).2) (by first|omega|(simp only[setM_len,storeM_len];omega)) (JE.wrap_wrap _ _)) dn (kd kn) (fun _=>p0) (fun _=>p2) fun _=>jn (jx (jq (jr (ja Z (ja Z (jn ?_))))))))))
 refine jx (jrt (jbr (jjr (jtr ?_))))
 have hm:stepM i regs mem=((0,true),setM (setM regs i.D ((wideM (getM regs i.A) (getM regs i.B)).1)) i.E ((wideM (getM regs i.A) (getM regs i.B)).2),mem):=(by unfold stepM;(repeat rw[if_neg (by omega)])<;>(try rw[if_pos (by omega)])<;>first|rfl|(simp[*];done)|(simp[immOp, *];done)|(exfalso;(try simp at hc9);(try simp at hc10);(try simp at hc11);simp_all;done))
 exact jr2 Z Z Z () (by rw[hm]) dn (fun _ _=>(kcg (by rw[hm]) k0 (kcg (by rw[hm]) k2 kn)))
 refine jq (jr (ja Z (ja Z (jn (jx (jrt (jbr (jjr (jtr ?_)))))))))
 have hm:stepM i regs mem=((0,true),regs,mem):=(by unfold stepM;(repeat rw[if_neg (by omega)])<;>(try rw[if_pos (by omega)])<;>first|rfl|(simp[*];done)|(simp[immOp, *];done)|(exfalso;(try simp at hc9);(try simp at hc10);(try simp at hc11);simp_all;done))
 exact jr2 Z Z Z () (by rw[hm]) dn (fun _ _=>(kcg (by rw[hm]) k0 (kcg (by rw[hm]) k2 kn)))
 rintro⟨v,t,ok,me⟩;dsimp only[u4];rintro⟨hvw,hme,hJ⟩
 refine jx (jq (jq (jr (jm Z (js (jnot Z) (jm Z (jg Z Z (.t _) (fun hg=>jmv Z) (jg Z Z (.t _) (fun hg=>jeql (evg Z hg) Z) (js (jand Z Z) (jn (jx ?_)))))))))))
 refine jif Z (fun hc12=>?_) (fun hc12=>?_)
 refine jr (ja Z (jn (jx (jq (jq (jr (jm Z (js (jnot Z) (jn (jx ?_))))))))))
 refine jif Z (fun hc13=>?_) (fun hc13=>?_)
 refine jq (jr (jm Z (ja Z (ja Z (jn (jx (jrt (jtr ?_))))))))
 have hm:stepM i regs mem=(((-2),false),regs,me):=(by rw[hJ.2 (by simp_all)];simp_all)
 exact jr2 Z Z Z () (by rw[hm]) dn (fun _ _=>(kcg (by rw[hm]) k0 (kcg (by rw[hm]) k2 kn)))
 exact absurd hc13 (by simp[hc12])
 refine jsk (jx (jq (jq (jr (jm Z (js (jnot Z) (jn (jx ?_))))))))
 refine jif Z (fun hc14=>?_) (fun hc14=>?_)
 refine jq (jr (jm Z (ja Z (ja Z (jn (jx (jrt (jtr ?_))))))))
 have hm:stepM i regs mem=((t,false),regs,me):=(by rw[hJ.2 (by simp_all)];simp_all)
 exact jr2 Z Z Z () (by rw[hm]) dn (fun _ _=>(kcg (by rw[hm]) k0 (kcg (by rw[hm]) k2 kn)))
 refine jsk (jx (jq (jq (jr (js (jla k2 A69 Z69 Z Z Z) (jcd E31 Z Z pMakes_ct (dc d0 dn) kn fun v187 q20 w20=>js (jln U22 d0 Z) (jm Z (jn (jx (jb ?_))))))))))
 refine jlp (u2 fun(k:Nat) (rs:List Int)=>⟨k≤(makesM i).length∧setAllM regs (makesM i) v=setAllM rs ((makesM i).drop k) v∧rs.length=regs.length,[dv (rL (rI .i64)) v187 (makesM i)],[gl B1 (rI .i32) 21 a1 rs,bx g4 72 [a1],gl B2 (rI .i32) 21 a2 me],[(11,.func (.func 85) #[] #[.pointer (some ⟨g4,0,none⟩)]),(12,.int .i32 v),(187,v187),(188,.int .i64 (↑(List.length (makesM i)))),(189,.int .i64 (↑k))],(makesM i).length-k⟩) (0,regs) ⟨by omega,rfl,rfl⟩ (dc d0 dn) (kd (kc k1 kn)) ⟨Z,Z,Z,Z,eqI (by omega),trivial⟩ ?_
 rintro⟨k,rs⟩;dsimp only[u2];rintro⟨hk,hR,hl9⟩
 refine jq (jr (js (jlss Z Z) (jn (jx (jq ?_)))))
 refine jif Z (fun hc15=>?_) (fun hc15=>?_)
 refine jsk (jx (jq (jb (jq (jr (js (jix U22 Z3 d0 Z Z Z (by omega)) (js (jlI (dix d0 k (by omega)) O3 Z) (ja Z (jn (jx (jr ?_)))))))))))
 refine jm Z (jm Z (jm Z (jc E85 Z Z (pSet_ct (ix (makesM i) k) v (by first|omega|(simp only[setM_len,storeM_len];omega)) hvw) dn (kd kn) (fun _=>p0) (fun _=>p2) fun _=>jn (jbn (jx (jr (js (jadd Z Z (by omega)) (jm Z (jn ?_)))))))))
 exact jag (k+1,setM rs (ix (makesM i) k) v) ⟨by dsimp only;omega,by dsimp only;rw[hR,drop_ix (by omega)];rfl,by dsimp only;rw[setM_len];exact hl9⟩ (dc d0 dn) (kd (kc k0 kn)) ⟨Z,Z,Z,Z,eqI (by omega),trivial⟩
 refine jex (jtx (jtx (jbh (jx (jq (jr (ja Z (ja Z (jn (jx (jrt ?_)))))))))))
 have hm:stepM i regs mem=((0,true),rs,me):=(by first|exact doJ_end (by simp_all) hR (by omega)|(have e9:ok=true:=(by simp_all);subst e9;exact doJ_end hJ hR (by omega)))
 exact jr2 Z Z Z () (by rw[hm]) dn (fun _ _=>(kcg (by rw[hm]) k0 (kcg (by rw[hm]) k1 kn)))
end Go.Proofs.YtehhjlkmbdhckaaGreat
namespace Go.JE
variable{P:Program}{D D0 D1 E:List Dt}{L M N Ls L0:List Res}{e:Env}{X:Cx}{n:Fs}{w0:World}{Q:Exit→Act→World→Prop}
def it(Ls:List Res):Res where
 sat F H:=Ok F H Ls
 own k:=Own Ls k
 lt:=Ok.lt
 no:=Ok.no
 st:=fun hl hs h1 h2 h=>Ok.st hl hs h1 h2 h
def dl(E:List Dt):Dt:=⟨fun F=>AllD F E,fun hl h=>h.up hl⟩
theorem db{d:List Dt}(h:Sd D L d):Nd D L (dl d):=h
theorem Ok.un{F:PH}{H:Heap}:Ok F H (it Ls::M)↔Ok F H (Ls++M):=by
 induction Ls with
 | nil=>exact⟨fun h=>h.2.2,fun h=>⟨trivial,fun _ h=>h.elim,h⟩⟩
 | cons R Ls ih =>
  constructor
  ·rintro⟨⟨a,b,c⟩,d,f⟩
   have:=ih.1 ⟨c,fun k hk=>d k (.inr hk),f⟩
   exact⟨a,fun k hk ho=>(Own.app.1 ho).elim (b k hk) (d k (.inl hk)),this⟩
  ·rintro⟨a,b,c⟩
   obtain⟨c1,c2,c3⟩:=ih.2 c
   exact⟨⟨a,fun k hk ho=>b k hk (Own.app.2 (.inl ho)),c1⟩,fun k hk ho=>hk.elim (fun h=>b k h (Own.app.2 (.inr ho))) (fun h=>c2 k h ho),c3⟩
theorem Own.un{k:Nat}:Own (it Ls::M) k↔Own (Ls++M) k:=⟨fun h=>Own.app.2 h,fun h=>Own.app.1 h⟩
theorem Tks.it(h:Tks L Ls M):Tks L [it Ls] M where
 ok:=fun o=>by
  obtain⟨a,b,c⟩:=h.ok o
  exact⟨⟨a,fun _ _=>id,trivial⟩,b,fun k hk=>c k (hk.resolve_right id)⟩
 own:=fun o=>h.own (o.imp (·.resolve_right id) id)
theorem Hp.unit{F:PH}{H:Heap}(h:Hp X D (JE.it Ls::M) F H):Hp X D (Ls++M) F H:=⟨h.hx,h.hin,h.hw,h.hd,Ok.un.1 h.ok,fun k hk=>h.ge k (Own.un.2 hk)⟩
section
variable{ops:Array Oper}{d:Nat}{ty:TypeId}{pos:String}{af:Array Edge}{rest:List Oper}{f:FuncId}{g:Operand}{xs:List Operand}{vs cs:List Value}{args:Array Value}{ts:Array TypeId}{ι:Type}{val:ι→Value}{dr:ι→List Dt}{lr:Nat→ι→List Res}{v:Value}
abbrev Pd(P:Program)(f:FuncId)(args:Array Value)(D0:List Dt)(Ls:List Res)(b:Bool):Prop:=Tr P f args D0 [it Ls] (fun _:Unit => .bool b) (fun _=>[]) (fun _ _=>[it Ls])
theorem Tr.it{D2:List Dt}(h:Tr P f args D0 Ls val dr (fun _ _=>Ls))(hd:∀{F:PH},AllD F D2→AllD F D0):Tr P f args D2 [it Ls] val dr (fun _ _=>[JE.it Ls]):=fun F H hin hD ho =>
 (h F H hin (hd hD) ho.1).mono fun v H' ⟨i,F',h1,h2⟩=>⟨i,F',h1,fun B hB=>by
  have h3:=h2 B hB
  refine⟨h3.hx,h3.hin,⟨h3.hw.1,fun k h1 h4=>h3.hw.2 k h1 (fun h5=>h4 (.inl h5))⟩,h3.hd,⟨h3.ok,fun _ _=>id,trivial⟩,fun k hk=>(h3.ge k (hk.resolve_right id)).imp id .inl⟩⟩
theorem i1{F:PH}{d:Dt}:AllD F [dl [d]]→AllD F [d]:=fun h=>h.1
theorem i0{F:PH}{D2:List Dt}:AllD F D2→AllD F []:=fun _=>trivial
theorem il{F:PH}{c:Dt}{E:List Dt}:AllD F [c,dl E]→AllD F (c::E):=fun h=>⟨h.1,h.2.1⟩
theorem ir{F:PH}{c:Dt}{E:List Dt}:AllD F [c,dl E]→AllD F [c]:=fun h=>⟨h.1,trivial⟩
theorem jcp(hE:Ent P f)(hf:ev e g=some (.func (.func f) #[] cs.toArray))(hl:evl e xs=some vs)(hT:Tr P f (vs++cs).toArray D0 [it Ls] (fun _:Unit=>v) (fun _=>[]) (fun _ _=>[it Ls]))(hd:Sd D L D0)(hk:Tks L Ls M)(hq:Ap Ls M N)
  (k:LH P n w0 ops Q X D N ((d,v)::e) rest) (hd1:Nat.blt d n.sz=true:=by rfl):LH P n w0 ops Q X D L e (⟨some d,.call { callee := .value g,args:=xs.toArray,argTypes:=ts },ty,pos,af,none⟩::rest) :=
 jc hE hf hl hT hd hk.it (fun _=>rfl) (fun _=>rfl) (fun _ F H h=>k F H (hq▸h.unit)) hd1
theorem jgcp{j t:Nat}{want B:Bool}{u:Value}(hj:(ops[j]?).bind (·.dst)=some t)(hu:lk e t=some u)(hB:Gd u want B)(hE:Ent P f)(hf:ev e g=some (.func (.func f) #[] cs.toArray))(hl:B=true→evl e xs=some vs)(hT:B=true→Tr P f (vs++cs).toArray D0 [it Ls] (fun _:Unit=>v) (fun _=>[]) (fun _ _=>[it Ls]))(hd:B=true→Sd D L D0)(hk:Tks L Ls M)(hq:Ap Ls M N)
  (k:LH P n w0 ops Q X D N ((d,gv B v)::e) rest) (hd1:Nat.blt d n.sz=true:=by rfl) (ht:Nat.blt t n.sz=true:=by rfl):LH P n w0 ops Q X D L e (⟨some d,.call { callee := .value g,args:=xs.toArray,argTypes:=ts },ty,pos,af,some (j,want)⟩::rest) :=
 jgc hj hu hB hE hf hl hT hd hk.it rfl (fun F H h=>k F H (hq▸h.unit)) hd1 ht
end
end Go.JE
namespace Go.Proofs.YtehhjlkmbdhckaaGreat
open Go.JE
abbrev U32:=@Tryz.underlying32
abbrev U60:=@Tryz.underlying60
theorem A62:∃d,Tryz.prog.underlying 62=some d∧(match d with | .struct _ | .array _ _=>true|_=>false)=true:=⟨_,Tryz.underlying62,rfl⟩
theorem A64:∃d,Tryz.prog.underlying 64=some d∧(match d with | .struct _ | .array _ _=>true|_=>false)=true:=⟨_,Tryz.underlying64,rfl⟩
theorem E166:Ent Tryz.prog 166:=⟨_,Tryz.func166,by kernel_rfl,by kernel_rfl⟩
theorem E168:Ent Tryz.prog 168:=⟨_,Tryz.func168,by kernel_rfl,by kernel_rfl⟩
theorem E83:Ent Tryz.prog 83:=⟨_,Tryz.func83,by kernel_rfl,by kernel_rfl⟩
theorem Z62:Sz Tryz.prog 62 2:=by unfold Sz;kernel_rfl
theorem Z64:Sz Tryz.prog 64 2:=by unfold Sz;kernel_rfl
def idxM{α:Type}(l:List α)(q:α→Bool):Int:=match l.findIdx? q with
 | some i=>i
 | none=>-1
def anyM{α:Type}(l:List α)(q:α→Bool):Bool:=l.any q
theorem idx_hit{α:Type}[Inhabited α]{l:List α}{q:α→Bool}{k:Nat}(hk:k<l.length)(h:∀x∈l.take k,q x=false)(h1:q (ix l k)=true):idxM l q=k:=by
 have:l.findIdx? q=some k:=by
  rw[List.findIdx?_eq_some_iff_getElem]
  refine⟨hk,by rw[←ix_eq hk];exact h1,fun j hj=>?_⟩
  have:=h l[j] (by rw[List.mem_take_iff_getElem];exact⟨j,by omega,rfl⟩)
  simp[this]
 simp[idxM,this]
theorem idx_none{α:Type}{l:List α}{q:α→Bool}{k:Nat}(hk:l.length≤k)(h:∀x∈l.take k,q x=false):idxM l q=-1:=by
 rw[List.take_of_length_le hk] at h
 have:l.findIdx? q=none:=by rw[List.findIdx?_eq_none_iff];exact h
 simp[idxM,this]
theorem idx_any{α:Type}(l:List α)(q:α→Bool):decide (0≤idxM l q)=anyM l q:=by
 unfold idxM anyM
 cases h:l.findIdx? q with
 | none =>
  rw[List.findIdx?_eq_none_iff] at h
  have:l.any q=false:=by rw[List.any_eq_false];intro x hx;simp[h x hx]
  rw[this];rfl
 | some i =>
  obtain⟨hi,h1,_⟩:=List.findIdx?_eq_some_iff_getElem.1 h
  have:l.any q=true:=List.any_eq_true.2 ⟨_,List.getElem_mem hi,h1⟩
  rw[this];simp
theorem no_snoc{α:Type}[Inhabited α]{l:List α}{q:α→Bool}{k:Nat}(hk:k<l.length)(h:∀x∈l.take k,q x=false)(h1:q (ix l k)=false):∀x∈l.take (k+1),q x=false:=by
 intro x hx
 rw[take_ix hk] at hx
 rcases List.mem_append.1 hx with hx|hx
 ·exact h x hx
 ·simp at hx;subst hx;exact h1
theorem Ct.kp{P:Program}{f:FuncId}{args:Array Value}{H:Heap}{u:Value}(h:Ct P f args H (fun v H'=>v=u∧H'=H)):Ct P f args H (fun v H'=>v=u∧Kp H.size H H'):=h.mono fun _ _ ⟨a,b⟩=>⟨a,b▸Kp.refl _ _⟩
theorem idxFInt_ct{a0:Value}{l:List Int}{fp:Nat}{cp:List Value}{D1:List Dt}{L1:List Res}(q:Int→Bool)(hE:Ent Tryz.prog fp)(hq:∀x,x∈l→Pd Tryz.prog fp (.int .i64 x::cp).toArray [dl D1] L1 (q x)):Tr Tryz.prog 168 #[a0,.func (.func fp) #[] cp.toArray] [dv (rL (rI .i64)) a0 l,dl D1] [it L1] (fun _:Unit => .int .i64 (idxM l q)) (fun _=>[]) (fun _ _=>[it L1]):=by
 refine jenter (args:=[a0,.func (.func fp) #[] cp.toArray]) Tryz.func168 rfl rfl rfl fun w0 X=>?_
 refine jq (jr (ja Z (jn (jx (jq (jq (jr (jm Z (jdq d0 fun q1 w1=>js (jln U22 d0 Z) (jm Z ?_))))))))))
 refine jn (jx (jb ?_))
 refine jlp (fun(k:Nat)=>⟨k≤l.length∧(∀x∈l.take k,q x=false),[dv (rL (rI .i64)) a0 l,dl D1],[it L1],[(0,a0),(1,.func (.func fp) #[] cp.toArray),(7,.int .i64 (↑(List.length l))),(8,.int .i64 (↑k))],l.length-k⟩) 0 ⟨by omega,by simp⟩ (dc d0 (dc d1 dn)) (kc k0 kn) ⟨Z,Z,Z,eqI (by omega),trivial⟩ ?_
 rintro k;dsimp only;rintro⟨hk,hR⟩
 refine jq (jr (js (jlss Z Z) (jn (jx (jq ?_)))))
 refine jif Z (fun hc1=>?_) (fun hc1=>?_)
 refine jsk (jx (jq (jb (jq (jr (jm Z (ja Z (jn (jx (jq (jr ?_)))))))))))
 refine jm Z (jm Z (jm Z (js (jix U22 Z3 d0 Z Z Z (by omega)) (js (jlI (dix d0 k (by omega)) O3 Z) (jc hE Z Z (hq (ix l k) (ix_mem (by omega))) (dc d1 dn) (kc k0 kn) (fun _=>p0) (fun _=>p1) fun _=>jn (jx ?_))))))
 refine jif Z (fun hc2=>?_) (fun hc2=>?_)
 refine jq (jr (jm Z (ja Z (jn (jx (jrt (jbr (jtr (jtr (jbr (jtr ?_)))))))))))
 exact jr1 Z Z () (congrArg (Value.int .i64) (Eq.symm (idx_hit (by omega) hR hc2))) dn (fun _ _=>(kc k0 kn))
 refine jsk (jbn (jx (jr (js (jadd Z Z (by omega)) (jm Z (jn ?_))))))
 exact jag (k+1) ⟨by omega,no_snoc (by omega) hR hc2⟩ (dc d0 (dc d1 dn)) (kc k0 kn) ⟨Z,Z,Z,eqI (by omega),trivial⟩
 refine jex (jtx (jtx (jbh (jx (jq (jr (ja Z (jn (jx (jrt ?_))))))))))
 exact jr1 Z Z () (congrArg (Value.int .i64) (Eq.symm (idx_none (by omega) hR))) dn (fun _ _=>(kc k0 kn))
theorem anyFInt_ct{a0:Value}{l:List Int}{fp:Nat}{cp:List Value}{D1:List Dt}{L1:List Res}(q:Int→Bool)(hE:Ent Tryz.prog fp)(hq:∀x,x∈l→Pd Tryz.prog fp (.int .i64 x::cp).toArray [dl D1] L1 (q x)):Tr Tryz.prog 134 #[a0,.func (.func fp) #[] cp.toArray] [dv (rL (rI .i64)) a0 l,dl D1] [it L1] (fun _:Unit => .bool (anyM l q)) (fun _=>[]) (fun _ _=>[it L1]):=by
 refine jenter (args:=[a0,.func (.func fp) #[] cp.toArray]) Tryz.func134 rfl rfl rfl fun w0 X=>?_
 refine jq (jr (ja Z (jn (jx (jq (jr (jm Z (jm Z (jdq d0 fun q1 w1=>jc E168 Z Z (idxFInt_ct q hE hq) (dc d0 (dc d1 dn)) (kc k0 kn) (fun _=>p0) (fun _=>p1) fun _=>js (jgeq Z Z) ?_)))))))))
 refine ja Z (jn (jx (jrt ?_)))
 exact jr1 Z Z () (congrArg Value.bool (Eq.symm ((idx_any l q).symm))) dn (fun _ _=>(kc k0 kn))
theorem idxFIn_ct{a0:Value}{l:List D.In}{fp:Nat}{cp:List Value}{D1:List Dt}{L1:List Res}(q:D.In→Bool)(hE:Ent Tryz.prog fp)(hq:∀x,x∈l→∀c:Unit,Pd Tryz.prog fp (vIn x c::cp).toArray [da rIn (vIn x c) x,dl D1] L1 (q x)):Tr Tryz.prog 83 #[a0,.func (.func fp) #[] cp.toArray] [dv (rL rIn) a0 l,dl D1] [it L1] (fun _:Unit => .int .i64 (idxM l q)) (fun _=>[]) (fun _ _=>[it L1]):=by
 refine jenter (args:=[a0,.func (.func fp) #[] cp.toArray]) Tryz.func83 rfl rfl rfl fun w0 X=>?_
 refine jq (jr (ja Z (jn (jx (jq (jq (jr (jm Z (jdq d0 fun q1 w1=>js (jln U60 d0 Z) (jm Z ?_))))))))))
 refine jn (jx (jb ?_))
 refine jlp (fun(k:Nat)=>⟨k≤l.length∧(∀x∈l.take k,q x=false),[dv (rL rIn) a0 l,dl D1],[it L1],[(0,a0),(1,.func (.func fp) #[] cp.toArray),(7,.int .i64 (↑(List.length l))),(8,.int .i64 (↑k))],l.length-k⟩) 0 ⟨by omega,by simp⟩ (dc d0 (dc d1 dn)) (kc k0 kn) ⟨Z,Z,Z,eqI (by omega),trivial⟩ ?_
 rintro k;dsimp only;rintro⟨hk,hR⟩
 refine jq (jr (js (jlss Z Z) (jn (jx (jq ?_)))))
 refine jif Z (fun hc1=>?_) (fun hc1=>?_)
 refine jsk (jx (jq (jb (jq (jr (jm Z (ja Z (jn (jx (jq (jr ?_)))))))))))
 refine jm Z (jm Z (jm Z (js (jix U60 Z64 d0 Z Z Z (by omega)) (jA sIn (jlA (dix d0 k (by omega)) A64 Z64 Z) fun _=>jc hE Z Z (hq (ix l k) (ix_mem (by omega)) ()) (dc d0 (dc d2 dn)) (kc k0 kn) (fun _=>p0) (fun _=>p1) fun _=>jn (jx ?_)))))
 refine jif Z (fun hc2=>?_) (fun hc2=>?_)
 refine jq (jr (jm Z (ja Z (jn (jx (jrt (jbr (jtr (jtr (jbr (jtr ?_)))))))))))
 exact jr1 Z Z () (congrArg (Value.int .i64) (Eq.symm (idx_hit (by omega) hR hc2))) dn (fun _ _=>(kc k0 kn))
 refine jsk (jbn (jx (jr (js (jadd Z Z (by omega)) (jm Z (jn ?_))))))
 exact jag (k+1) ⟨by omega,no_snoc (by omega) hR hc2⟩ (dc d1 (dc d2 dn)) (kc k0 kn) ⟨Z,Z,Z,eqI (by omega),trivial⟩
 refine jex (jtx (jtx (jbh (jx (jq (jr (ja Z (jn (jx (jrt ?_))))))))))
 exact jr1 Z Z () (congrArg (Value.int .i64) (Eq.symm (idx_none (by omega) hR))) dn (fun _ _=>(kc k0 kn))
theorem anyFIn_ct{a0:Value}{l:List D.In}{fp:Nat}{cp:List Value}{D1:List Dt}{L1:List Res}(q:D.In→Bool)(hE:Ent Tryz.prog fp)(hq:∀x,x∈l→∀c:Unit,Pd Tryz.prog fp (vIn x c::cp).toArray [da rIn (vIn x c) x,dl D1] L1 (q x)):Tr Tryz.prog 129 #[a0,.func (.func fp) #[] cp.toArray] [dv (rL rIn) a0 l,dl D1] [it L1] (fun _:Unit => .bool (anyM l q)) (fun _=>[]) (fun _ _=>[it L1]):=by
 refine jenter (args:=[a0,.func (.func fp) #[] cp.toArray]) Tryz.func129 rfl rfl rfl fun w0 X=>?_
 refine jq (jr (ja Z (jn (jx (jq (jr (jm Z (jm Z (jdq d0 fun q1 w1=>jc E83 Z Z (idxFIn_ct q hE hq) (dc d0 (dc d1 dn)) (kc k0 kn) (fun _=>p0) (fun _=>p1) fun _=>js (jgeq Z Z) ?_)))))))))
 refine ja Z (jn (jx (jrt ?_)))
 exact jr1 Z Z () (congrArg Value.bool (Eq.symm ((idx_any l q).symm))) dn (fun _ _=>(kc k0 kn))
theorem idxFPhi_ct{a0:Value}{l:List D.Phi}{fp:Nat}{cp:List Value}{D1:List Dt}{L1:List Res}(q:D.Phi→Bool)(hE:Ent Tryz.prog fp)(hq:∀x,x∈l→∀c:Value,Pd Tryz.prog fp (vPhi x c::cp).toArray [da rPhi (vPhi x c) x,dl D1] L1 (q x)):Tr Tryz.prog 166 #[a0,.func (.func fp) #[] cp.toArray] [dv (rL rPhi) a0 l,dl D1] [it L1] (fun _:Unit => .int .i64 (idxM l q)) (fun _=>[]) (fun _ _=>[it L1]):=by
 refine jenter (args:=[a0,.func (.func fp) #[] cp.toArray]) Tryz.func166 rfl rfl rfl fun w0 X=>?_
 refine jq (jr (ja Z (jn (jx (jq (jq (jr (jm Z (jdq d0 fun q1 w1=>js (jln U32 d0 Z) (jm Z ?_))))))))))
 refine jn (jx (jb ?_))
 refine jlp (fun(k:Nat)=>⟨k≤l.length∧(∀x∈l.take k,q x=false),[dv (rL rPhi) a0 l,dl D1],[it L1],[(0,a0),(1,.func (.func fp) #[] cp.toArray),(7,.int .i64 (↑(List.length l))),(8,.int .i64 (↑k))],l.length-k⟩) 0 ⟨by omega,by simp⟩ (dc d0 (dc d1 dn)) (kc k0 kn) ⟨Z,Z,Z,eqI (by omega),trivial⟩ ?_
 rintro k;dsimp only;rintro⟨hk,hR⟩
 refine jq (jr (js (jlss Z Z) (jn (jx (jq ?_)))))
 refine jif Z (fun hc1=>?_) (fun hc1=>?_)
 refine jsk (jx (jq (jb (jq (jr (jm Z (ja Z (jn (jx (jq (jr ?_)))))))))))
 refine jm Z (jm Z (jm Z (js (jix U32 Z62 d0 Z Z Z (by omega)) (jA sPhi (jlA (dix d0 k (by omega)) A62 Z62 Z) fun c15=>jc hE Z Z (hq (ix l k) (ix_mem (by omega)) c15) (dc d0 (dc d2 dn)) (kc k0 kn) (fun _=>p0) (fun _=>p1) fun _=>jn (jx ?_)))))
 refine jif Z (fun hc2=>?_) (fun hc2=>?_)
 refine jq (jr (jm Z (ja Z (jn (jx (jrt (jbr (jtr (jtr (jbr (jtr ?_)))))))))))
 exact jr1 Z Z () (congrArg (Value.int .i64) (Eq.symm (idx_hit (by omega) hR hc2))) dn (fun _ _=>(kc k0 kn))
 refine jsk (jbn (jx (jr (js (jadd Z Z (by omega)) (jm Z (jn ?_))))))
 exact jag (k+1) ⟨by omega,no_snoc (by omega) hR hc2⟩ (dc d1 (dc d2 dn)) (kc k0 kn) ⟨Z,Z,Z,eqI (by omega),trivial⟩
 refine jex (jtx (jtx (jbh (jx (jq (jr (ja Z (jn (jx (jrt ?_))))))))))
 exact jr1 Z Z () (congrArg (Value.int .i64) (Eq.symm (idx_none (by omega) hR))) dn (fun _ _=>(kc k0 kn))
theorem anyFPhi_ct{a0:Value}{l:List D.Phi}{fp:Nat}{cp:List Value}{D1:List Dt}{L1:List Res}(q:D.Phi→Bool)(hE:Ent Tryz.prog fp)(hq:∀x,x∈l→∀c:Value,Pd Tryz.prog fp (vPhi x c::cp).toArray [da rPhi (vPhi x c) x,dl D1] L1 (q x)):Tr Tryz.prog 131 #[a0,.func (.func fp) #[] cp.toArray] [dv (rL rPhi) a0 l,dl D1] [it L1] (fun _:Unit => .bool (anyM l q)) (fun _=>[]) (fun _ _=>[it L1]):=by
 refine jenter (args:=[a0,.func (.func fp) #[] cp.toArray]) Tryz.func131 rfl rfl rfl fun w0 X=>?_
 refine jq (jr (ja Z (jn (jx (jq (jr (jm Z (jm Z (jdq d0 fun q1 w1=>jc E166 Z Z (idxFPhi_ct q hE hq) (dc d0 (dc d1 dn)) (kc k0 kn) (fun _=>p0) (fun _=>p1) fun _=>js (jgeq Z Z) ?_)))))))))
 refine ja Z (jn (jx (jrt ?_)))
 exact jr1 Z Z () (congrArg Value.bool (Eq.symm ((idx_any l q).symm))) dn (fun _ _=>(kc k0 kn))
abbrev U188:=@Tryz.underlying188
abbrev U24:=@Tryz.underlying24
theorem A35:∃d,Tryz.prog.underlying 35=some d∧(match d with | .struct _ | .array _ _=>true|_=>false)=true:=⟨_,Tryz.underlying35,rfl⟩
theorem E128:Ent Tryz.prog 128:=⟨_,Tryz.func128,by kernel_rfl,by kernel_rfl⟩
theorem E133:Ent Tryz.prog 133:=⟨_,Tryz.func133,by kernel_rfl,by kernel_rfl⟩
theorem E134:Ent Tryz.prog 134:=⟨_,Tryz.func134,by kernel_rfl,by kernel_rfl⟩
theorem E135:Ent Tryz.prog 135:=⟨_,Tryz.func135,by kernel_rfl,by kernel_rfl⟩
theorem E165:Ent Tryz.prog 165:=⟨_,Tryz.func165,by kernel_rfl,by kernel_rfl⟩
theorem E167:Ent Tryz.prog 167:=⟨_,Tryz.func167,by kernel_rfl,by kernel_rfl⟩
theorem E29:Ent Tryz.prog 29:=⟨_,Tryz.func29,by kernel_rfl,by kernel_rfl⟩
theorem E30:Ent Tryz.prog 30:=⟨_,Tryz.func30,by kernel_rfl,by kernel_rfl⟩
theorem E44:Ent Tryz.prog 44:=⟨_,Tryz.func44,by kernel_rfl,by kernel_rfl⟩
theorem E45:Ent Tryz.prog 45:=⟨_,Tryz.func45,by kernel_rfl,by kernel_rfl⟩
theorem Z24:Sz Tryz.prog 24 2:=by unfold Sz;kernel_rfl
theorem Z35:Sz Tryz.prog 35 5:=by unfold Sz;kernel_rfl
theorem J24:(Tryz.prog.info? 24).bind (·.zero)=some (.agg #[.int .i64 0,.int .i64 0]):=by kernel_rfl
def badR(r:Int):Bool:=decide (r<0)||decide (8192≤r)
theorem any_reg:∀l:List Int,(!anyM l badR)=regM l
 | []=>rfl
 | x::l=>by
  have ih:=any_reg l
  unfold anyM at ih ⊢
  rw[List.any_cons,regM,Bool.not_or,ih]
  by_cases h:x<0∨8192≤x
  ·rw[if_pos h];have:badR x=true:=by unfold badR;simp;exact h
   rw[this];rfl
  ·rw[if_neg h];have:badR x=false:=by unfold badR;simp;omega
   rw[this];rfl
theorem u32_dec{n:Int}(h:IntKind.i32.wrap n=n)(m:Int)(hm:0<m∧m≤1000):decide (IntKind.u32.wrap n<m)=decide (0≤n∧n≤m-1):=by
 have h1:=i32_rng h
 rw[decide_eq_decide,IntKind.wrap_u32];omega
def immM(i:D.Mach):Bool :=
 if i.Op=3 then fitsM i.Imm 16
 else if i.Op=18∨i.Op=19 then fitsM i.Imm 8
 else if i.Op=20∨i.Op=21∨i.Op=22 then decide (0≤i.Imm∧i.Imm≤31)
 else if i.Op=24∨i.Op=26 then decide (0≤i.Imm∧i.Imm≤255)
 else true
def insE(i:D.Mach):Int :=
 if i.Op<1∨29<i.Op∨i.Op=2∨(i.Op=28∧4<i.Args.length) then 30
 else if regM (makesM i)=false∨regM (takesM i)=false then 31
 else if i.Op=29∧i.D=i.E then 12
 else if immM i=false then 32
 else 0
def limLo(op:Int):Int:=if op=1 then 1 else if op=7∨op=8 then 0 else 2
def limHi(op:Int):Int:=if op=1 then 1 else if op=7∨op=8 then 0 else if op=6 then 65 else 2
def toM(e:D.End):Bool:=decide (1≤e.Op∧e.Op≤8∧limLo e.Op≤e.To.length∧e.To.length≤limHi e.Op)
def badB(n b:Int):Bool:=decide (b<1)||decide (n≤b)
def endE(e:D.End)(n:Int):Int:=if toM e=false then 30 else if regM (nM9 e)=false then 31 else if anyM e.To (badB n)=true then 14 else 0
def phiE(p:D.Phi)(ahead:List D.Phi):Int :=
 if regM [p.Dst]=false∨anyM p.In (fun x=>!regM [x.Val])=true then 31
 else if anyM ahead (fun x=>decide (x.Dst=p.Dst))=true then 12
 else 0
theorem ltab(op:Int):((.tuple #[(lkM [(1,.agg #[.int .i64 1,.int .i64 1]),(2,.agg #[.int .i64 2,.int .i64 2]),(3,.agg #[.int .i64 2,.int .i64 2]),(4,.agg #[.int .i64 2,.int .i64 2]),(5,.agg #[.int .i64 2,.int .i64 2]),(6,.agg #[.int .i64 2,.int .i64 65]),(7,.agg #[.int .i64 0,.int .i64 0]),(8,.agg #[.int .i64 0,.int .i64 0])] op).getD (.agg #[.int .i64 0,.int .i64 0]),.bool (lkM [(1,.agg #[.int .i64 1,.int .i64 1]),(2,.agg #[.int .i64 2,.int .i64 2]),(3,.agg #[.int .i64 2,.int .i64 2]),(4,.agg #[.int .i64 2,.int .i64 2]),(5,.agg #[.int .i64 2,.int .i64 2]),(6,.agg #[.int .i64 2,.int .i64 65]),(7,.agg #[.int .i64 0,.int .i64 0]),(8,.agg #[.int .i64 0,.int .i64 0])] op).isSome]:Value) = .tuple #[.agg #[.int .i64 (limLo op),.int .i64 (limHi op)],.bool true]∧1≤op∧op≤8) ∨
  ((.tuple #[(lkM [(1,.agg #[.int .i64 1,.int .i64 1]),(2,.agg #[.int .i64 2,.int .i64 2]),(3,.agg #[.int .i64 2,.int .i64 2]),(4,.agg #[.int .i64 2,.int .i64 2]),(5,.agg #[.int .i64 2,.int .i64 2]),(6,.agg #[.int .i64 2,.int .i64 65]),(7,.agg #[.int .i64 0,.int .i64 0]),(8,.agg #[.int .i64 0,.int .i64 0])] op).getD (.agg #[.int .i64 0,.int .i64 0]),.bool (lkM [(1,.agg #[.int .i64 1,.int .i64 1]),(2,.agg #[.int .i64 2,.int .i64 2]),(3,.agg #[.int .i64 2,.int .i64 2]),(4,.agg #[.int .i64 2,.int .i64 2]),(5,.agg #[.int .i64 2,.int .i64 2]),(6,.agg #[.int .i64 2,.int .i64 65]),(7,.agg #[.int .i64 0,.int .i64 0]),(8,.agg #[.int .i64 0,.int .i64 0])] op).isSome]:Value) = .tuple #[.agg #[.int .i64 0,.int .i64 0],.bool false]∧¬(1≤op∧op≤8)):=by
 by_cases ho:1≤op∧op≤8
 ·refine .inl ⟨?_,ho⟩
  have hc:op=1∨op=2∨op=3∨op=4∨op=5∨op=6∨op=7∨op=8:=by omega
  rcases hc with rfl|rfl|rfl|rfl|rfl|rfl|rfl|rfl<;>rfl
 ·refine .inr ⟨?_,ho⟩
  have h1:∀k:Int,1≤k→k≤8→(k==op)=false:=fun k h2 h3=>by rw[beq_eq_false_iff_ne];omega
  simp[lkM,List.find?,h1]
theorem pRegs1_ct(r:Int):Tv Tryz.prog 165 #[.int .i64 r] [] [] (.bool (badR r)):=by
 refine jenter (args:=[.int .i64 r]) Tryz.func165 rfl rfl rfl fun w0 X=>?_
 refine jq (jr (ja Z (jn (jx (jq (jr (jm Z (js (jlss Z Z) (jm Z (jg Z Z (.f _) (fun hg=>jmv Z) (jg Z Z (.f _) (fun hg=>jgeq (evg Z hg) Z) ?_)))))))))))
 refine js (jor Z Z) (ja Z (jn (jx (jrt ?_))))
 exact jrB Z Z (by rfl)
theorem pRegs_ct{a0:Value}{l:List Int}:Tv Tryz.prog 128 #[a0] [dv (rL (rI .i64)) a0 l] [] (.bool (regM l)):=by
 refine jenter (args:=[a0]) Tryz.func128 rfl rfl rfl fun w0 X=>?_
 refine jq (jr (ja Z (jn (jx (jq (jr (jm Z (jdq d0 fun q1 w1=>jcp E134 Z Z (anyFInt_ct badR E165 (fun x _=>Tr.it (pRegs1_ct x) i0)) (dc d0 (dc (db dn) dn)) kn p0 (js (jnot Z) (ja Z ?_))))))))))
 refine jn (jx (jrt ?_))
 exact jrB Z Z ((any_reg l).symm)
theorem pImm_ct{a0:Value}{i:D.Mach}:Tv Tryz.prog 133 #[vMach i a0] [da rMach (vMach i a0) i] [] (.bool (immM i)):=by
 refine jenter (args:=[vMach i a0]) Tryz.func133 rfl rfl rfl fun w0 X=>?_
 refine cwr (rMach.W_Imm d0) fun wim=>jq (jr (jbox Z Z fun g1=>ja Z (jn (jx (jq (jq (jr (js (jf F69_0 Z) (js (jl k0 O3 Z Z) ?_)))))))))
 refine jn (jx (jb (jq (jr (js (jeql Z Z) (ja Z (jn (jx ?_))))))))
 refine jif Z (fun hc1=>?_) (fun hc1=>?_)
 refine jq (jr (js (jf F69_6 Z) (js (jl k0 O21 Z Z) (jwr (rMach.W_Imm d0) fun w1=>jcv E167 Z Z (wFits_ct i.Imm 16 w1) dn kn (ja Z (jn (jx (jrt (jbr (jtr ?_))))))))))
 exact jrB Z Z (by(unfold immM;(repeat rw[if_neg (by omega)])<;>(try rw[if_pos (by omega)])<;>first|rfl|exact(u32_dec wim 32 (by decide)).symm|exact(u32_dec wim 256 (by decide)).symm|(simp[*];done)|(simp;done)|(rw[Bool.decide_and];done)))
 refine jq (jq (jr (js (jeql Z Z) (ja Z (jn (jx ?_))))))
 refine jif Z (fun hc2=>?_) (fun hc2=>?_)
 refine jsk (jx ?_)
 refine jif Z (fun hc3=>?_) (fun hc3=>?_)
 refine jq (jr (js (jf F69_6 Z) (js (jl k0 O21 Z Z) (jwr (rMach.W_Imm d0) fun w2=>jcv E167 Z Z (wFits_ct i.Imm 8 w2) dn kn (ja Z (jn (jx (jrt (jbr (jtr ?_))))))))))
 exact jrB Z Z (by(unfold immM;(repeat rw[if_neg (by omega)])<;>(try rw[if_pos (by omega)])<;>first|rfl|exact(u32_dec wim 32 (by decide)).symm|exact(u32_dec wim 256 (by decide)).symm|(simp[*];done)|(simp;done)|(rw[Bool.decide_and];done)))
 exact absurd hc3 (by simp[hc1,hc2])
 refine jr (js (jeql Z Z) (ja Z (jn (jx ?_))))
 refine jif Z (fun hc4=>?_) (fun hc4=>?_)
 refine jq (jr (js (jf F69_6 Z) (js (jl k0 O21 Z Z) (jwr (rMach.W_Imm d0) fun w3=>jcv E167 Z Z (wFits_ct i.Imm 8 w3) dn kn (ja Z (jn (jx (jrt (jbr (jtr ?_))))))))))
 exact jrB Z Z (by(unfold immM;(repeat rw[if_neg (by omega)])<;>(try rw[if_pos (by omega)])<;>first|rfl|exact(u32_dec wim 32 (by decide)).symm|exact(u32_dec wim 256 (by decide)).symm|(simp[*];done)|(simp;done)|(rw[Bool.decide_and];done)))
 refine jq (jq (jr (js (jeql Z Z) (ja Z (jn (jx ?_))))))
 refine jif Z (fun hc5=>?_) (fun hc5=>?_)
 refine jsk (jx ?_)
 refine jif Z (fun hc6=>?_) (fun hc6=>?_)
 refine jq (jr (js (jf F69_6 Z) (js (jl k0 O21 Z Z) (js (jco U21 U148 Z Z) (js (jlss Z Z) (ja Z (jn (jx (jrt (jbr (jtr ?_)))))))))))
 exact jrB Z Z (by(unfold immM;(repeat rw[if_neg (by omega)])<;>(try rw[if_pos (by omega)])<;>first|rfl|exact(u32_dec wim 32 (by decide)).symm|exact(u32_dec wim 256 (by decide)).symm|(simp[*];done)|(simp;done)|(rw[Bool.decide_and];done)))
 exact absurd hc6 (by simp[hc1,hc2,hc4,hc5])
 refine jq (jr (js (jeql Z Z) (ja Z (jn (jx ?_)))))
 refine jif Z (fun hc7=>?_) (fun hc7=>?_)
 refine jsk (jx ?_)
 refine jif Z (fun hc8=>?_) (fun hc8=>?_)
 refine jq (jr (js (jf F69_6 Z) (js (jl k0 O21 Z Z) (js (jco U21 U148 Z Z) (js (jlss Z Z) (ja Z (jn (jx (jrt (jbr (jtr ?_)))))))))))
 exact jrB Z Z (by(unfold immM;(repeat rw[if_neg (by omega)])<;>(try rw[if_pos (by omega)])<;>first|rfl|exact(u32_dec wim 32 (by decide)).symm|exact(u32_dec wim 256 (by decide)).symm|(simp[*];done)|(simp;done)|(rw[Bool.decide_and];done)))
 exact absurd hc8 (by simp[hc1,hc2,hc4,hc5,hc7])
 refine jr (js (jeql Z Z) (ja Z (jn (jx ?_))))
 refine jif Z (fun hc9=>?_) (fun hc9=>?_)
 refine jq (jr (js (jf F69_6 Z) (js (jl k0 O21 Z Z) (js (jco U21 U148 Z Z) (js (jlss Z Z) (ja Z (jn (jx (jrt (jbr (jtr ?_)))))))))))
 exact jrB Z Z (by(unfold immM;(repeat rw[if_neg (by omega)])<;>(try rw[if_pos (by omega)])<;>first|rfl|exact(u32_dec wim 32 (by decide)).symm|exact(u32_dec wim 256 (by decide)).symm|(simp[*];done)|(simp;done)|(rw[Bool.decide_and];done)))
 refine jq (jq (jr (js (jeql Z Z) (ja Z (jn (jx ?_))))))
 refine jif Z (fun hc10=>?_) (fun hc10=>?_)
 refine jsk (jx ?_)
 refine jif Z (fun hc11=>?_) (fun hc11=>?_)
 refine jq (jr (js (jf F69_6 Z) (js (jl k0 O21 Z Z) (js (jco U21 U148 Z Z) (js (jlss Z Z) (ja Z (jn (jx (jrt (jbr (jtr ?_)))))))))))
 exact jrB Z Z (by(unfold immM;(repeat rw[if_neg (by omega)])<;>(try rw[if_pos (by omega)])<;>first|rfl|exact(u32_dec wim 32 (by decide)).symm|exact(u32_dec wim 256 (by decide)).symm|(simp[*];done)|(simp;done)|(rw[Bool.decide_and];done)))
 exact absurd hc11 (by simp[hc1,hc2,hc4,hc5,hc7,hc9,hc10])
 refine jr (js (jeql Z Z) (ja Z (jn (jx ?_))))
 refine jif Z (fun hc12=>?_) (fun hc12=>?_)
 refine jq (jr (js (jf F69_6 Z) (js (jl k0 O21 Z Z) (js (jco U21 U148 Z Z) (js (jlss Z Z) (ja Z (jn (jx (jrt (jbr (jtr ?_)))))))))))
 exact jrB Z Z (by(unfold immM;(repeat rw[if_neg (by omega)])<;>(try rw[if_pos (by omega)])<;>first|rfl|exact(u32_dec wim 32 (by decide)).symm|exact(u32_dec wim 256 (by decide)).symm|(simp[*];done)|(simp;done)|(rw[Bool.decide_and];done)))
 refine jsk (jbn (jx (jq (jr (ja Z (jn (jx (jrt ?_))))))))
 exact jrB Z Z (by(unfold immM;(repeat rw[if_neg (by omega)])<;>(try rw[if_pos (by omega)])<;>first|rfl|exact(u32_dec wim 32 (by decide)).symm|exact(u32_dec wim 256 (by decide)).symm|(simp[*];done)|(simp;done)|(rw[Bool.decide_and];done)))
theorem pIns_ct{a0:Value}{i:D.Mach}:Tv Tryz.prog 91 #[vMach i a0] [da rMach (vMach i a0) i] [] (.int .i64 (insE i)):=by
 refine jenter (args:=[vMach i a0]) Tryz.func91 rfl rfl rfl fun w0 X=>?_
 refine jq (jr (jbox Z Z fun g1=>ja Z (jn (jx (jq (jb (jq (jr (js (jf F69_0 Z) (js (jl k0 O3 Z Z) ?_))))))))))
 refine js (jlss Z Z) (jm Z (jg Z Z (.f _) (fun hg=>jf F69_0 Z) (jg Z Z (.f _) (fun hg=>jl k0 O3 (evg Z hg) Z) (jg Z Z (.f _) (fun hg=>jgtr (evg Z hg) Z) (js (jor Z Z) (jm Z (jg Z Z (.f _) (fun hg=>jf F69_0 Z) (jg Z Z (.f _) (fun hg=>jl k0 O3 (evg Z hg) Z) (jg Z Z (.f _) (fun hg=>jeql (evg Z hg) Z) (js (jor Z Z) (jm Z ?_)))))))))))
 refine jg Z Z (.f _) (fun hg=>jf F69_0 Z) (jg Z Z (.f _) (fun hg=>jl k0 O3 (evg Z hg) Z) (jg Z Z (.f _) (fun hg=>jeql (evg Z hg) Z) (jg Z Z (.f _) (fun hg=>jmv (evg Z hg)) (jg Z Z (.gt _ _) (fun hg=>jf F69_7 Z) (jg Z Z (.gt _ _) (fun hg=>jl k0 O22 (evg Z hg) Z) (jdq (rMach.c_Args d0) fun q1 w1=>jg Z Z (.gt _ _) (fun hg=>jln U22 (rMach.c_Args d0) (evg Z hg)) (jg Z Z (.gt _ _) (fun hg=>jgtr (evg Z hg) Z) (jg Z Z (.f _) (fun hg=>jand2 hg Z Z) (js (jor Z Z) (ja Z ?_))))))))))
 refine jn (jx ?_)
 refine jif Z (fun hc1=>?_) (fun hc1=>?_)
 refine jq (jr (ja Z (jn (jx (jrt (jbr (jtr ?_)))))))
 exact jrI Z Z (by first|(unfold insE;rw[if_pos (by omega)];done)|(unfold insE;rw[if_neg (by omega)];simp[*];done)|(unfold insE;rw[if_neg (by omega)];simp[*];omega))
 refine jq (jr (js (jla k0 A69 Z69 Z Z Z) (jcd E31 Z Z pMakes_ct (dc d0 dn) kn fun v30 q2 w2=>jcv E128 Z Z pRegs_ct (dc d0 dn) kn (js (jnot Z) (jm Z (jg Z Z (.f _) (fun hg=>jla k0 A69 Z69 Z Z Z) (jgcd Z Z (.f _) E30 Z (fun hg=>evl1 (evg Z hg)) (fun hg=>pTakes_ct) (fun hg=>(dc d1 dn)) fun v35=>jgc Z Z (.f _) E128 Z (fun hg=>evl1 (evg Z hg)) (fun hg=>pRegs_ct) (fun hg=>(dc (d0.on hg) dn)) kn p0 (jg Z Z (.f _) (fun hg=>jnot (evg Z hg)) (js (jor Z Z) ?_)))))))))
 refine ja Z (jn (jx ?_))
 refine jif Z (fun hc2=>?_) (fun hc2=>?_)
 refine jq (jr (ja Z (jn (jx (jrt (jbr (jtr ?_)))))))
 exact jrI Z Z (by first|(unfold insE;rw[if_pos (by omega)];done)|(unfold insE;rw[if_neg (by omega)];simp[*];done)|(unfold insE;rw[if_neg (by omega)];simp[*];omega))
 refine jq (jr (js (jf F69_0 Z) (js (jl k0 O3 Z Z) (js (jeql Z Z) (jm Z (jg Z Z (.t _) (fun hg=>jf F69_1 Z) (jg Z Z (.t _) (fun hg=>jl k0 O3 (evg Z hg) Z) (jg Z Z (.t _) (fun hg=>jf F69_2 Z) (jg Z Z (.t _) (fun hg=>jl k0 O3 (evg Z hg) Z) (jg Z Z (.t _) (fun hg=>jeql (evg Z hg) (evg Z hg)) (js (jand Z Z) ?_)))))))))))
 refine ja Z (jn (jx ?_))
 refine jif Z (fun hc3=>?_) (fun hc3=>?_)
 refine jq (jr (ja Z (jn (jx (jrt (jbr (jtr ?_)))))))
 exact jrI Z Z (by first|(unfold insE;rw[if_pos (by omega)];done)|(unfold insE;rw[if_neg (by omega)];simp[*];done)|(unfold insE;rw[if_neg (by omega)];simp[*];omega))
 refine jq (jr (js (jla k0 A69 Z69 Z Z Z) (jcv E133 Z Z pImm_ct (dc d2 dn) kn (js (jnot Z) (ja Z (jn (jx ?_)))))))
 refine jif Z (fun hc4=>?_) (fun hc4=>?_)
 refine jq (jr (ja Z (jn (jx (jrt (jbr (jtr ?_)))))))
 exact jrI Z Z (by first|(unfold insE;rw[if_pos (by omega)];done)|(unfold insE;rw[if_neg (by omega)];simp[*];done)|(unfold insE;rw[if_neg (by omega)];simp[*];omega))
 refine jsk (jbn (jx (jq (jr (ja Z (jn (jx (jrt ?_))))))))
 exact jrI Z Z (by first|(unfold insE;rw[if_pos (by omega)];done)|(unfold insE;rw[if_neg (by omega)];simp[*];done)|(unfold insE;rw[if_neg (by omega)];simp[*];omega))
theorem pEnd1_ct(b:Int)(n:Int){g1:Nat}:Tr Tryz.prog 135 #[.int .i64 b,.pointer (some ⟨g1,0,none⟩)] [] [bx g1 3 [.int .i64 n]] (fun _:Unit => .bool ((badB n) b)) (fun _=>[]) (fun _ _=>[bx g1 3 [.int .i64 n]]):=by
 refine jenter (args:=[.int .i64 b,.pointer (some ⟨g1,0,none⟩)]) Tryz.func135 rfl rfl rfl fun w0 X=>?_
 refine jq (jr (ja Z (jn (jx (jq (jr (jm Z (js (jlss Z Z) (jm Z (jg Z Z (.f _) (fun hg=>jmv Z) (jg Z Z (.f _) (fun hg=>jl k0 O3 Z Z) ?_)))))))))))
 refine jg Z Z (.f _) (fun hg=>jgeq (evg Z hg) (evg Z hg)) (js (jor Z Z) (ja Z (jn (jx (jrt ?_)))))
 exact jr1 Z Z () (congrArg Value.bool (Eq.symm (by rfl))) dn (fun _ _=>(kc k0 kn))
theorem pEnd_ct{a0:Value}{e:D.End}(n:Int):Tv Tryz.prog 92 #[vEnd e a0,.int .i64 n] [da rEnd (vEnd e a0) e] [] (.int .i64 (endE e n)):=by
 refine jenter (args:=[vEnd e a0,.int .i64 n]) Tryz.func92 rfl rfl rfl fun w0 X=>?_
 refine jq (jr (jbox Z Z fun g2=>jbox Z Z fun g3=>ja Z (jn (jx (jq (jr (jmm fun g8=>js (jbu (v := .agg #[.int .i64 1,.int .i64 1]) Z (fun _=>by kernel_rfl)) (jin U188 U3 k0 Z Z Z Z ?_))))))))
 refine js (jbu (v := .agg #[.int .i64 2,.int .i64 2]) Z (fun _=>by kernel_rfl)) (jin U188 U3 k0 Z Z Z Z (js (jbu (v := .agg #[.int .i64 2,.int .i64 2]) Z (fun _=>by kernel_rfl)) (jin U188 U3 k0 Z Z Z Z (js (jbu (v := .agg #[.int .i64 2,.int .i64 2]) Z (fun _=>by kernel_rfl)) (jin U188 U3 k0 Z Z Z Z (js (jbu (v := .agg #[.int .i64 2,.int .i64 2]) Z (fun _=>by kernel_rfl)) (jin U188 U3 k0 Z Z Z Z (js (jbu (v := .agg #[.int .i64 2,.int .i64 65]) Z (fun _=>by kernel_rfl)) (jin U188 U3 k0 Z Z Z Z (js (jbu (v := .agg #[.int .i64 0,.int .i64 0]) Z (fun _=>by kernel_rfl)) (jin U188 U3 k0 Z Z Z Z ?_)))))))))))
 refine js (jbu (v := .agg #[.int .i64 0,.int .i64 0]) Z (fun _=>by kernel_rfl)) (jin U188 U3 k0 Z Z Z Z (jm Z (ja Z (jn (jx (jq (jr (jm Z (js (jf F35_0 Z) (js (jl k2 O3 Z Z) ?_))))))))))
 refine jfk (p:=fun v=>(v = .tuple #[.agg #[.int .i64 (limLo e.Op),.int .i64 (limHi e.Op)],.bool true]∧1≤e.Op∧e.Op≤8)∨(v = .tuple #[.agg #[.int .i64 0,.int .i64 0],.bool false]∧¬(1≤e.Op∧e.Op≤8))) ⟨_,jlko U188 U3 J24 k0 Z Z,ltab e.Op⟩ ?_
 rintro v22 (⟨rfl,hop⟩|⟨rfl,hop⟩)
 refine jm Z (js (jex' Z Z) (js (jex' Z Z) (jalc J24 Z fun g6=>jsta k0 Z24 Z Z Z ⟨Z,Z,trivial⟩ (saf Z) (ja Z (jn (jx (jq (jb (jq (jr ?_))))))))))
 refine jm Z (js (jnot Z) (jm Z (jk Z Z (.f _) (jf F35_3 Z) (jk Z Z (.f _) (jl k3 O22 Z Z) (jdq (rEnd.c_To d0) fun q1 w1=>jk Z Z (.f _) (jln U22 (rEnd.c_To d0) Z) (jk Z Z (.f _) (jixa (i:=0) U24 Z3 Z Z Z (by omega)) (jk Z Z (.f _) (jl k0 O3 Z Z) (jk Z Z (.f _) (jlss Z Z) (js (jor Z Z) (jm Z ?_))))))))))
 refine jg Z Z (.f _) (fun hg=>jf F35_3 Z) (jg Z Z (.f _) (fun hg=>jl k3 O22 (evg Z hg) Z) (jg Z Z (.f _) (fun hg=>jln U22 (rEnd.c_To d0) (evg Z hg)) (jg Z Z (.f _) (fun hg=>jixa (i:=1) U24 Z3 Z Z Z (by first|omega|(simp at hg;omega))) (jg Z Z (.f _) (fun hg=>jl k0 O3 (evg Z hg) Z) (jg Z Z (.f _) (fun hg=>jgtr (evg Z hg) (evg Z hg)) (js (jor Z Z) (ja Z (jn (jx ?_)))))))))
 refine jif Z (fun hc1=>?_) (fun hc1=>?_)
 try simp only[false_or,true_and] at hc1
 refine jq (jr (ja Z (jn (jx (jrt (jbr (jtr ?_)))))))
 exact jrI Z Z (by first|(have ht:toM e=false:=(by unfold toM;simp only[decide_eq_false_iff_not];omega);unfold endE;rw[if_pos ht];done)|(have ht:toM e=true:=(by unfold toM;simp only[decide_eq_true_eq];omega);unfold endE;rw[if_neg (by rw[ht];decide)];simp[*];done))
 try simp only[false_or,true_and] at hc1
 refine jq (jr (js (jla k3 A35 Z35 Z Z Z) (jcd E29 Z Z pNeeds_ct (dc d0 dn) kn fun v46 q2 w2=>jcv E128 Z Z pRegs_ct (dc d0 dn) kn (js (jnot Z) (ja Z (jn (jx ?_)))))))
 refine jif Z (fun hc2=>?_) (fun hc2=>?_)
 refine jq (jr (ja Z (jn (jx (jrt (jbr (jtr ?_)))))))
 exact jrI Z Z (by first|(have ht:toM e=false:=(by unfold toM;simp only[decide_eq_false_iff_not];omega);unfold endE;rw[if_pos ht];done)|(have ht:toM e=true:=(by unfold toM;simp only[decide_eq_true_eq];omega);unfold endE;rw[if_neg (by rw[ht];decide)];simp[*];done))
 refine jq (jr (js (jf F35_3 Z) (js (jl k3 O22 Z Z) (js (jmf1 Z) (jcp E134 Z Z (anyFInt_ct (badB n) E135 (fun x _=>Tr.it (pEnd1_ct x n) i0)) (dc (rEnd.c_To d1) (dc (db dn) dn)) (kc k2 kn) p1 (ja Z (jn (jx ?_))))))))
 refine jif Z (fun hc3=>?_) (fun hc3=>?_)
 refine jq (jr (ja Z (jn (jx (jrt (jbr (jtr ?_)))))))
 exact jrI Z Z (by first|(have ht:toM e=false:=(by unfold toM;simp only[decide_eq_false_iff_not];omega);unfold endE;rw[if_pos ht];done)|(have ht:toM e=true:=(by unfold toM;simp only[decide_eq_true_eq];omega);unfold endE;rw[if_neg (by rw[ht];decide)];simp[*];done))
 refine jsk (jbn (jx (jq (jr (ja Z (jn (jx (jrt ?_))))))))
 exact jrI Z Z (by first|(have ht:toM e=false:=(by unfold toM;simp only[decide_eq_false_iff_not];omega);unfold endE;rw[if_pos ht];done)|(have ht:toM e=true:=(by unfold toM;simp only[decide_eq_true_eq];omega);unfold endE;rw[if_neg (by rw[ht];decide)];simp[*];done))
 refine jm Z (js (jex' Z Z) (js (jex' Z Z) (jalc J24 Z fun g6_4=>jsta k0 Z24 Z Z Z ⟨Z,Z,trivial⟩ (saf Z) (ja Z (jn (jx (jq (jb (jq (jr ?_))))))))))
 refine jm Z (js (jnot Z) (jm Z (jg Z Z (.f _) (fun hg=>jf F35_3 Z) (jg Z Z (.f _) (fun hg=>jl k3 O22 (evg Z hg) Z) (jdq (rEnd.c_To d0) fun q5 w5=>jg Z Z (.f _) (fun hg=>jln U22 (rEnd.c_To d0) (evg Z hg)) (jg Z Z (.f _) (fun hg=>jixa (i:=0) U24 Z3 Z Z Z (by first|omega|(simp at hg;omega))) (jg Z Z (.f _) (fun hg=>jl k0 O3 (evg Z hg) Z) (jg Z Z (.f _) (fun hg=>jlss (evg Z hg) (evg Z hg)) (js (jor Z Z) (jm Z ?_))))))))))
 refine jg Z Z (.f _) (fun hg=>jf F35_3 Z) (jg Z Z (.f _) (fun hg=>jl k3 O22 (evg Z hg) Z) (jg Z Z (.f _) (fun hg=>jln U22 (rEnd.c_To d0) (evg Z hg)) (jg Z Z (.f _) (fun hg=>jixa (i:=1) U24 Z3 Z Z Z (by first|omega|(simp at hg;omega))) (jg Z Z (.f _) (fun hg=>jl k0 O3 (evg Z hg) Z) (jg Z Z (.f _) (fun hg=>jgtr (evg Z hg) (evg Z hg)) (js (jor Z Z) (ja Z (jn (jx ?_)))))))))
 refine jif Z (fun hc4=>?_) (fun hc4=>?_)
 refine jq (jr (ja Z (jn (jx (jrt (jbr (jtr ?_)))))))
 exact jrI Z Z (by first|(have ht:toM e=false:=(by unfold toM;simp only[decide_eq_false_iff_not];omega);unfold endE;rw[if_pos ht];done)|(have ht:toM e=true:=(by unfold toM;simp only[decide_eq_true_eq];omega);unfold endE;rw[if_neg (by rw[ht];decide)];simp[*];done))
 exact absurd hc4 (by simp)
theorem E129:Ent Tryz.prog 129:=⟨_,Tryz.func129,by kernel_rfl,by kernel_rfl⟩
theorem E130:Ent Tryz.prog 130:=⟨_,Tryz.func130,by kernel_rfl,by kernel_rfl⟩
theorem E131:Ent Tryz.prog 131:=⟨_,Tryz.func131,by kernel_rfl,by kernel_rfl⟩
theorem E132:Ent Tryz.prog 132:=⟨_,Tryz.func132,by kernel_rfl,by kernel_rfl⟩
theorem F62_0:Fld Tryz.prog 62 0 0:=⟨_,_,Tryz.underlying62,rfl,rfl,1,(by unfold Sz;kernel_rfl),by decide⟩
theorem F62_1:Fld Tryz.prog 62 1 1:=⟨_,_,Tryz.underlying62,rfl,rfl,1,(by unfold Sz;kernel_rfl),by decide⟩
theorem F64_1:Fld Tryz.prog 64 1 1:=⟨_,_,Tryz.underlying64,rfl,rfl,1,(by unfold Sz;kernel_rfl),by decide⟩
theorem O60:One Tryz.prog 60:=⟨_,Tryz.underlying60,rfl⟩
theorem ix_take{α:Type}[Inhabited α]{l:List α}{i n:Nat}(h:i<n):ix (l.take n) i=ix l i:=by simp[ix,List.getD,h]
theorem pPhi1_ct{x:D.In}:Tv Tryz.prog 130 #[vIn x ()] [da rIn (vIn x ()) x] [] (.bool ((fun x:D.In=>!regM [x.Val]) x)):=by
 refine jenter (args:=[vIn x ()]) Tryz.func130 rfl rfl rfl fun w0 X=>?_
 refine jq (jr (jbox Z Z fun g1=>ja Z (jn (jx (jq (jr (js (jf F64_1 Z) (js (jl k0 O3 Z Z) (jlit (r:=(rI .i64)) (l:=[x.Val]) U22 I3 (by decide) Z Z Z (lV Z Z (wI (rIn.W_Val d0)) ln) fun g5=>jc E128 Z Z (Tv.temp 1073741824 pRegs_ct (by(try simp)<;>omega)) dn (kc k0 kn) (fun _=>p0) (fun _=>p1) fun _=>?_)))))))))
 refine js (jnot Z) (ja Z (jn (jx (jrt ?_))))
 exact jrB Z Z (by rfl)
theorem pPhi2_ct{a0:Value}{x:D.Phi}{d:Int}{c:Value}{g1:Nat}:Tr Tryz.prog 132 #[vPhi x a0,.pointer (some ⟨g1,0,none⟩)] [da rPhi (vPhi x a0) x] [bx g1 62 [.int .i64 d,c]] (fun _:Unit => .bool ((fun(d:Int) (x:D.Phi)=>decide (x.Dst=d)) d x)) (fun _=>[]) (fun _ _=>[bx g1 62 [.int .i64 d,c]]):=by
 refine jenter (args:=[vPhi x a0,.pointer (some ⟨g1,0,none⟩)]) Tryz.func132 rfl rfl rfl fun w0 X=>?_
 refine jq (jr (jbox Z Z fun g2=>ja Z (jn (jx (jq (jr (js (jf F62_0 Z) (js (jl k0 O3 Z Z) (js (jf F62_0 Z) (js (jl k1 O3 Z Z) ?_))))))))))
 refine js (jeql Z Z) (ja Z (jn (jx (jrt ?_))))
 exact jr1 Z Z () (congrArg Value.bool (Eq.symm (by rfl))) dn (fun _ _=>(kc k1 kn))
theorem pPhi_ct{a0:Value}{p:D.Phi}{a1:Value}{ahead:List D.Phi}:Tv Tryz.prog 90 #[vPhi p a0,a1] [da rPhi (vPhi p a0) p,dv (rL rPhi) a1 ahead] [] (.int .i64 (phiE p ahead)):=by
 refine jenter (args:=[vPhi p a0,a1]) Tryz.func90 rfl rfl rfl fun w0 X=>?_
 refine jq (jr (jbox Z Z fun g2=>ja Z (jn (jx (jq (jq (jr (js (jf F62_0 Z) (js (jl k0 O3 Z Z) (jlit (r:=(rI .i64)) (l:=[p.Dst]) U22 I3 (by decide) Z Z Z (lV Z Z (wI (rPhi.W_Dst d0)) ln) fun g7=>?_))))))))))
 refine jc E128 Z Z (Tv.temp 1073741824 pRegs_ct (by(try simp)<;>omega)) dn (kc k0 kn) (fun _=>p0) (fun _=>p1) fun _=>js (jnot Z) (jm Z (jg Z Z (.f _) (fun hg=>jf F62_1 Z) (jg Z Z (.f _) (fun hg=>jl k1 O60 (evg Z hg) Z) (jdq (rPhi.c_In d0) fun q1 w1=>jgcp Z Z (.f _) E129 Z (fun hg=>evl2 (evg Z hg) Z) (fun hg=>(anyFIn_ct (fun x:D.In=>!regM [x.Val]) E130 (fun x _ c=>Tr.it pPhi1_ct ir))) (fun hg=>(dc (rPhi.c_In d0) (dc (db dn) dn))) kn p0 (js (jor Z Z) (jn (jx ?_)))))))
 refine jif Z (fun hc1=>?_) (fun hc1=>?_)
 refine jq (jr (ja Z (jn (jx (jrt (jtr ?_))))))
 exact jrI Z Z (by unfold phiE;simp[*];done)
 refine jsk (jx (jq (jq (jr (jm Z (js (jmf1 Z) (jdq d1 fun q2 w2=>jcp E131 Z Z (anyFPhi_ct (fun x:D.Phi=>decide (x.Dst=p.Dst)) E132 (fun x _ c=>Tr.it pPhi2_ct ir)) (dc d1 (dc (db dn) dn)) (kc k1 kn) p1 (jn (jx ?_)))))))))
 refine jif Z (fun hc2=>?_) (fun hc2=>?_)
 refine jq (jr (ja Z (jn (jx (jrt (jtr ?_))))))
 exact jrI Z Z (by unfold phiE;simp[*];done)
 refine jsk (jx (jq (jr (ja Z (jn (jx (jrt ?_)))))))
 exact jrI Z Z (by unfold phiE;simp[*];done)
end Go.Proofs.YtehhjlkmbdhckaaGreat
namespace Go.JE
variable{P:Program}{D D0 D1 E:List Dt}{L M N Ls L0 Rs:List Res}{e:Env}{X:Cx}{n:Fs}{w0:World}{Q:Exit→Act→World→Prop}{F G:PH}{H:Heap}{R:Res}{i k:Nat}
theorem Own.focus:∀{Rs:List Res} {i:Nat} (hi:i<Rs.length),Own Rs k↔Own (Rs[i]::Rs.set i (it [])) k
 | R::Rs,0,_=>⟨fun h=>h.imp id .inr,fun h=>h.imp id (·.resolve_left id)⟩
 | R::Rs,i+1,hi=>by
  have ih:=Own.focus (Rs:=Rs) (i:=i) (by simpa using hi)
  simp only[Own,List.getElem_cons_succ,List.set_cons_succ] at ih ⊢
  rw[ih]
  constructor
  ·rintro(h|h|h)
   ·exact .inr (.inl h)
   ·exact .inl h
   ·exact .inr (.inr h)
  ·rintro(h|h|h)
   ·exact .inr (.inl h)
   ·exact .inl h
   ·exact .inr (.inr h)
theorem Ok.focus:∀{Rs:List Res} {i:Nat} (hi:i<Rs.length),Ok F H Rs↔Ok F H (Rs[i]::Rs.set i (it []))
 | R::Rs,0,_=>⟨fun⟨a,b,c⟩=>⟨a,fun k h ho=>b k h (ho.resolve_left id),trivial,fun _ h=>h.elim,c⟩,fun⟨a,b,_,_,c⟩=>⟨a,fun k h ho=>b k h (.inr ho),c⟩⟩
 | R::Rs,i+1,hi=>by
  have hi':i<Rs.length:=by simpa using hi
  have ih:=Ok.focus (Rs:=Rs) (i:=i) hi'
  simp only[List.getElem_cons_succ,List.set_cons_succ]
  constructor
  ·rintro⟨a,b,c⟩
   obtain⟨x,y,z⟩:=ih.1 c
   refine⟨x,?_,a,fun k hk ho=>b k hk ((Own.focus hi').2 (.inr ho)),z⟩
   rintro k hk (ho|ho)
   ·exact b k ho ((Own.focus hi').2 (.inl hk))
   ·exact y k hk ho
  ·rintro⟨x,y,a,b,z⟩
   refine⟨a,fun k hk ho=>?_,ih.2 ⟨x,fun k hk ho=>y k hk (.inr ho),z⟩⟩
   rcases(Own.focus hi').1 ho with h|h
   ·exact y k h (.inl hk)
   ·exact b k hk h
theorem Hp.focus(h:Hp X D (it Rs::M) F H)(hi:i<Rs.length):Hp X D (Rs[i]::it (Rs.set i (it []))::M) F H:=by
 have o:=Ok.un.1 h.ok
 refine⟨h.hx,h.hin,h.hw,h.hd,?_,fun k hk=>?_⟩
 ·obtain⟨a,b,c⟩:=h.ok
  obtain⟨x,y,z⟩:=(Ok.focus hi).1 a
  exact⟨x,fun k hk ho=>ho.elim (y k hk) (b k ((Own.focus hi).2 (.inl hk))),z,fun k hk=>b k ((Own.focus hi).2 (.inr hk)),c⟩
 ·rcases hk with hk|hk|hk
  ·exact h.ge k (.inl ((Own.focus hi).2 (.inl hk)))
  ·exact h.ge k (.inl ((Own.focus hi).2 (.inr hk)))
  ·exact h.ge k (.inr hk)
theorem Hp.unfocus(h:Hp X D (R::it (Rs.set i (it []))::M) F H)(hi:i<Rs.length):Hp X D (it (Rs.set i R)::M) F H:=by
 have hi2:i<(Rs.set i R).length:=by simpa using hi
 have e1:(Rs.set i R)[i]=R:=by simp
 have e2:(Rs.set i R).set i (it [])=Rs.set i (it []):=by simp
 refine⟨h.hx,h.hin,h.hw,h.hd,?_,fun k hk=>?_⟩
 ·obtain⟨a,b,c,d,f⟩:=h.ok
  refine⟨(Ok.focus hi2).2 (by rw[e1,e2];exact⟨a,fun k hk ho=>b k hk (.inl ho),c⟩),fun k hk=>?_,f⟩
  have hk':=(Own.focus hi2).1 hk
  rw[e1,e2] at hk'
  exact hk'.elim (fun h1 h2=>b k h1 (.inr h2)) (d k)
 ·rcases hk with hk|hk
  ·have hk':=(Own.focus hi2).1 hk
   rw[e1,e2] at hk'
   exact hk'.elim (fun h1=>h.ge k (.inl h1)) (fun h1=>h.ge k (.inr (.inl h1)))
  ·exact h.ge k (.inr (.inr hk))
theorem Hp.front(h:Hp X D L F H)(hk:Tk L R M):Hp X D (R::M) F H:=⟨h.hx,h.hin,h.hw,h.hd,hk.ok h.ok,fun k h1=>h.ge k (hk.own h1)⟩
def rV:Rp Value where
 sz:=1
 agg:=false
 ok _ u f:=f 0=u∧u.oneCell'=true
 up _ h:=h
 ext he h:=by rw[←he 0 (by omega)];exact h
 one h i hi:=by rw[show i=0 by omega,h.1];exact h.2
theorem wV{u:Value}(h:u.oneCell'=true):Nd D L (dv rV u u):=fun _ _ _ _ _=>⟨rfl,h⟩
section
variable{α:Type}{r:Rp α}{T To:TypeId}{B:Nat}{v u v':Value}{vs:List Value}{ls:List (List α)}{l l':List α}
def rws(B:Nat)(r:Rp α)(T:TypeId)(vs:List Value)(ls:List (List α)):List Res:=List.zipWith (gl B r T) vs ls
theorem zip_set{β γ δ:Type}(f:β→γ→δ):∀(a:List β) (b:List γ) (i:Nat) (x:β) (y:γ),(List.zipWith f a b).set i (f x y)=List.zipWith f (a.set i x) (b.set i y)
 | [],_,_,_,_=>by simp
 | _::_,[],i,_,_=>by cases i<;>simp
 | _::_,_::_,0,_,_=>rfl
 | _::a,_::b,i+1,x,y=>by simp[zip_set f a b i x y]
def hole(i:Nat)(B:Nat)(r:Rp α)(T:TypeId)(vs:List Value)(ls:List (List α)):Res:=it ((rws B r T vs ls).set i (it []))
abbrev rw'(B:Nat)(r:Rp α)(T:TypeId)(vs:List Value)(ls:List (List α)):Res:=it (rws B r T vs ls)
section
variable{ops:Array Oper}{rest:List Oper}{c:Code}{m:Nat}
theorem rws_ix(h1:i<vs.length)(h2:i<ls.length):∃h,(rws B r T vs ls)[i]'h=gl B r T (vs.getD i undef) (ls.getD i []) :=
 ⟨by simp[rws];omega,by simp[rws,h1,h2]⟩
theorem Hp.row(hp:Hp X D L F H)(hk:Tk L (rw' B r T vs ls) M)(h1:i<vs.length)(h2:i<ls.length):Hp X D (gl B r T (vs.getD i undef) (ls.getD i [])::hole i B r T vs ls::M) F H:=by
 obtain⟨h3,h4⟩:=rws_ix (B:=B) (r:=r) (T:=T) h1 h2
 have:=(hp.front hk).focus h3
 rw[h4] at this;exact this
theorem Hp.unrow(hp:Hp X D (gl B r T v' l'::hole i B r T vs ls::M) F H)(h1:i<vs.length)(h2:i<ls.length):Hp X D (rw' B r T (vs.set i v') (ls.set i l')::M) F H:=by
 obtain⟨h3,_⟩:=rws_ix (B:=B) (r:=r) (T:=T) h1 h2
 have:=hp.unfocus h3
 unfold rws at this
 rw[zip_set] at this;exact this
theorem jro(i:Nat)(hk:Tk L (rw' B r T vs ls) M)(h1:i<vs.length)(h2:i<ls.length)(k:LH P n w0 ops Q X D (gl B r T (vs.getD i undef) (ls.getD i [])::hole i B r T vs ls::M) e rest):LH P n w0 ops Q X D L e rest:=fun F H hp=>k F H (hp.row hk h1 h2)
theorem jru(hk:Tk L (gl B r T v' l') M)(hk2:Tk M (hole i B r T vs ls) N)(h1:i<vs.length)(h2:i<ls.length)(k:LH P n w0 ops Q X D (rw' B r T (vs.set i v') (ls.set i l')::N) e rest):LH P n w0 ops Q X D L e rest:=fun F H hp=>by
 have h3:=hp.front hk
 have h4:Hp X D (gl B r T v' l'::hole i B r T vs ls::N) F H:=⟨h3.hx,h3.hin,h3.hw,h3.hd,by
  obtain⟨a,b,c⟩:=h3.ok
  obtain⟨x,y,z⟩:=hk2.ok c
  exact⟨a,fun k hk ho=>b k hk (hk2.own ho),x,y,z⟩,fun k hk=>hk.elim (fun h=>h3.ge k (.inl h)) (fun h=>h3.ge k (.inr (hk2.own h)))⟩
 exact k F H (h4.unrow h1 h2)
theorem set_same{β:Type}(l:List β)(i:Nat)(z:β):l.set i (l.getD i z)=l:=by
 by_cases h:i<l.length
 ·simp[List.getD,h]
 ·rw[List.set_eq_of_length_le (by omega)]
theorem jrx(hk:Tk L (gl B r T (vs.getD i undef) (ls.getD i [])) M)(hk2:Tk M (hole i B r T vs ls) N)(h1:i<vs.length)(h2:i<ls.length)(k:LH P n w0 ops Q X D (rw' B r T vs ls::N) e rest):LH P n w0 ops Q X D L e rest :=
 jru hk hk2 h1 h2 (by rw[set_same,set_same];exact k)
theorem jrn(m:Nat)(k:LH P n w0 ops Q X D (rw' X.n r T (List.replicate m (.slice none 0 0)) (List.replicate m [])::L) e rest):LH P n w0 ops Q X D L e rest:=fun F H hp=>by
 have h1:∀m k,¬Own (rws X.n r T (List.replicate m (.slice none 0 0)) (List.replicate m [])) k:=by
  intro m k
  induction m with
  | zero=>exact id
  | succ m ih=>exact fun h=>h.elim (fun h=>by cases h) ih
 have h2:∀m,Ok F H (rws X.n r T (List.replicate m (.slice none 0 0)) (List.replicate m [])):=by
  intro m
  induction m with
  | zero=>trivial
  | succ m ih=>exact⟨⟨Gl.nil _ _ _,hp.hw.1⟩,(fun k h=>by cases h),ih⟩
 exact k F H (hp.new (R:=rw' X.n r T (List.replicate m (.slice none 0 0)) (List.replicate m [])) (Kp.refl _ _) (h2 m) (fun k h=>(h1 m k h).elim))
theorem jgW{x:Operand}(hk:Tk L (gl B rV To v vs) M)(hi:i<vs.length)(hT:One P T)(hx:ev e x=some (.pointer (some ⟨vblk v,voff v+i*1,none⟩))):OH P D L e (.load T x) (vs.getD i undef):=fun F H _ _ h=>by
 obtain⟨u,h1,h2⟩:=OpOk.ldGV (hk.ok h).1.1 hi hT rfl hx
 have e1:u=vs.getD i undef:=h2.1
 exact e1▸h1
theorem rws_freeze:∀{vs:List Value} {ls:List (List α)} {F:PH},InH F H→Ok F H (rws B r T vs ls)→vs.length=ls.length→(∀l∈ls,l.length<1073741824)→∃G,F.le G∧InH G H∧(∀k,k<B→G k=F k)∧(∀k,¬Own (rws B r T vs ls) k→G k=F k)∧∀i (h1:i<vs.length) (h2:i<ls.length),(rL r).rv G vs[i] ls[i]
 | [],[],F,hin,_,_,_=>⟨F,PH.le.refl F,hin,fun _ _=>rfl,fun _ _=>rfl,fun i h1=>by cases h1⟩
 | v::vs,l::ls,F,hin,⟨⟨a,a2⟩,b,c⟩,hl,hM=>by
  obtain⟨G,h1,h2,h3,h4,h5⟩:=a.freeze (N:=1073741824) hin (hM l (.head _))
  have c':Ok G H (rws B r T vs ls):=c.st h1 (Nat.le_refl _) (fun k hk=>(h4 k (fun e1=>b k e1 hk)).trans (c.no hk)) (fun _ _=>rfl)
  obtain⟨K,g1,g2,g3,g4,g5⟩:=rws_freeze h2 c' (by simpa using hl) (fun l hl=>hM l (.tail _ hl))
  refine⟨K,h1.trans g1,g2,fun k hk=>(g3 k hk).trans (h3 k hk),fun k hk=>(g4 k (fun h=>hk (.inr h))).trans (h4 k (fun h=>hk (.inl h))),fun i=>?_⟩
  cases i with
  | zero=>exact fun _ _=>Rp.rv.up h5 g1
  | succ i=>exact fun h1 h2=>g5 i (by simpa using h1) (by simpa using h2)
 | [],_::_,_,_,_,hl,_=>by cases hl
 | _::_,[],_,_,_,hl,_=>by cases hl
theorem rows_rv(h:(rLn m rV).rv F v vs)(hl:vs.length=ls.length)(hr:∀i (h1:i<vs.length) (h2:i<ls.length),(rL r).rv F vs[i] ls[i]):(rLn m (rL r)).rv F v ls:=by
 obtain⟨a,b,c,d,f,g,g',x,y⟩:=h
 refine⟨hl▸a,b,c,hl▸d,hl▸f,fun i hi=>g i (by rw[hl];exact hi),g',fun i hi=>x i (by rw[hl];exact hi),fun i hi=>?_⟩
 have hi':i<vs.length:=hl▸hi
 have h1:=hr i hi' hi
 have h2:=y i hi'
 refine(rL r).ext (fun j hj=>?_) h1
 rw[show j=0 from Nat.lt_one_iff.1 hj]
 exact h2.1.symm
theorem Hp.freezes(hp:Hp X D L F H)(hk:Tk L (gl X.n rV To v vs) M)(hk2:Tk M (rw' X.n r T vs ls) N)(hl:vs.length=ls.length)(h0:ls.length<1073741824)(hM:∀l∈ls,l.length<1073741824):∃G,Hp X (dv (rL (rL r)) v ls::D) N G H:=by
 have h1:=hp.front hk
 obtain⟨o1,o2,o3⟩:=h1.ok
 obtain⟨q1,q2,q3⟩:=hk2.ok o3
 have o1':Gl rV To F H X.n v vs:=o1.1
 obtain⟨G,f1,f2,f3,f4,f5⟩:=o1'.freeze (N:=1073741824) hp.hin (by omega)
 have q1':Ok G H (rws X.n r T vs ls):=Ok.st f1 (Nat.le_refl _) (fun k hk=>(f4 k (fun e1=>o2 k e1 (hk2.own (.inl hk)))).trans (Ok.no (L:=rws X.n r T vs ls) q1 hk)) (fun _ _=>rfl) q1
 obtain⟨K,g1,g2,g3,g4,g5⟩:=rws_freeze f2 q1' hl hM
 have h6:∀k,Own N k→K k=F k:=fun k hk1=>(g4 k (fun h=>q2 k h hk1)).trans (f4 k (fun e1=>o2 k e1 (hk2.own (.inr hk1))))
 have hx2:∀k,k<X.n→K k=F k:=fun k hk1=>(g3 k hk1).trans (f3 k hk1)
 refine⟨K,⟨hp.hx.1.trans (f1.trans g1),fun k hk1=>(hx2 k hk1).trans (hp.hx.2 k hk1)⟩,g2,hp.hw,⟨rows_rv (Rp.rv.up f5 g1) hl g5,hp.hd.up (f1.trans g1)⟩,q3.st (f1.trans g1) (Nat.le_refl _) (fun k hk1=>(h6 k hk1).trans (q3.no hk1)) (fun _ _=>rfl),fun k hk1=>h1.ge k (.inr (hk2.own (.inr hk1)))⟩
theorem cfr(hk:Tk L (gl X.n rV To v vs) M)(hk2:Tk M (rw' X.n r T vs ls) N)(hl:vs.length=ls.length)(h0:ls.length<1073741824)(hM:∀l∈ls,l.length<1073741824)(k:CH P n w0 Q X (dv (rL (rL r)) v ls::D) N e c):CH P n w0 Q X D L e c:=fun F H hp=>by
 obtain⟨G,h⟩:=hp.freezes hk hk2 hl h0 hM;exact k G H h
theorem qfr{z:Exit}(hk:Tk L (gl X.n rV To v vs) M)(hk2:Tk M (rw' X.n r T vs ls) N)(hl:vs.length=ls.length)(h0:ls.length<1073741824)(hM:∀l∈ls,l.length<1073741824)(k:QH n w0 Q X (dv (rL (rL r)) v ls::D) N e z):QH n w0 Q X D L e z:=fun F H hp=>by
 obtain⟨G,h⟩:=hp.freezes hk hk2 hl h0 hM;exact k G H h
theorem jfr(hk:Tk L (gl X.n rV To v vs) M)(hk2:Tk M (rw' X.n r T vs ls) N)(hl:vs.length=ls.length)(h0:ls.length<1073741824)(hM:∀l∈ls,l.length<1073741824)(k:LH P n w0 ops Q X (dv (rL (rL r)) v ls::D) N e rest):LH P n w0 ops Q X D L e rest:=fun F H hp=>by
 obtain⟨G,h⟩:=hp.freezes hk hk2 hl h0 hM;exact k G H h
end
end
end Go.JE
namespace Go.Proofs.YtehhjlkmbdhckaaGreat
open Go.JE
abbrev U4:=@Tryz.underlying4
abbrev U93:=@Tryz.underlying93
theorem E139:Ent Tryz.prog 139:=⟨_,Tryz.func139,by kernel_rfl,by kernel_rfl⟩
theorem E169:Ent Tryz.prog 169:=⟨_,Tryz.func169,by kernel_rfl,by kernel_rfl⟩
theorem F64_0:Fld Tryz.prog 64 0 0:=⟨_,_,Tryz.underlying64,rfl,rfl,1,(by unfold Sz;kernel_rfl),by decide⟩
theorem O4:One Tryz.prog 4:=⟨_,Tryz.underlying4,rfl⟩
theorem Z4:Sz Tryz.prog 4 1:=by unfold Sz;kernel_rfl
theorem J64:(Tryz.prog.info? 64).bind (·.zero)=some (.agg #[.int .i64 0,.int .i64 0]):=by kernel_rfl
def predsT(bs:List D.MBlock)(k:Nat)(b:Int):List Int:=((List.range k).filter (fun a:Nat=>decide (b∈(ix bs a).End.To))).map (fun a:Nat=>(a:Int))
def predsM(bs:List D.MBlock)(b:Int):List Int:=predsT bs bs.length b
theorem predsT_succ(bs:List D.MBlock)(k:Nat)(b:Int):predsT bs (k+1) b=predsT bs k b++if b∈(ix bs k).End.To then [(k:Int)] else []:=by
 unfold predsT
 rw[List.range_succ,List.filter_append,List.map_append]
 congr 1
 by_cases h:b∈(ix bs k).End.To<;>simp[h]
theorem predsT_lt(bs:List D.MBlock)(k:Nat)(b:Int):∀x∈predsT bs k b,x<k:=by
 intro x hx
 unfold predsT at hx
 obtain⟨a,ha,rfl⟩:=List.mem_map.1 hx
 have:=List.mem_range.1 (List.mem_filter.1 ha).1
 omega
theorem predsT_len(bs:List D.MBlock)(k:Nat)(b:Int):(predsT bs k b).length≤k:=by
 unfold predsT
 rw[List.length_map]
 exact Nat.le_trans (List.length_filter_le _ _) (by simp)
def predsJ(bs:List D.MBlock)(k j:Nat)(b:Int):List Int:=predsT bs k b++if b∈(ix bs k).End.To.take j then [(k:Int)] else []
theorem predsJ_zero(bs:List D.MBlock)(k:Nat)(b:Int):predsJ bs k 0 b=predsT bs k b:=by simp[predsJ]
theorem predsJ_end(bs:List D.MBlock)(k j:Nat)(b:Int)(h:(ix bs k).End.To.length≤j):predsJ bs k j b=predsT bs (k+1) b:=by
 rw[predsT_succ];unfold predsJ;rw[List.take_of_length_le h]
theorem predsJ_len(bs:List D.MBlock)(k j:Nat)(b:Int):(predsJ bs k j b).length≤k+1:=by
 have:=predsT_len bs k b
 unfold predsJ;rw[List.length_append];split<;>simp<;>omega
theorem predsJ_mem(bs:List D.MBlock)(k j:Nat)(b:Int):(k:Int)∈predsJ bs k j b↔b∈(ix bs k).End.To.take j:=by
 unfold predsJ
 rw[List.mem_append]
 constructor
 ·rintro(h|h)
  ·have:=predsT_lt bs k b _ h;omega
  ·split at h
   ·assumption
   ·cases h
 ·intro h;rw[if_pos h];exact .inr (by simp)
theorem predsJ_old{bs:List D.MBlock}{k j:Nat}(hj:j<(ix bs k).End.To.length)(h:(k:Int)∈predsJ bs k j (ix (ix bs k).End.To j))(b:Int):predsJ bs k (j+1) b=predsJ bs k j b:=by
 rw[predsJ_mem] at h
 unfold predsJ
 rw[take_ix hj]
 by_cases h1:b∈(ix bs k).End.To.take j
 ·rw[if_pos (by simp[h1]),if_pos h1]
 ·have h2:b≠ix (ix bs k).End.To j:=by rintro rfl;exact h1 h
  rw[if_neg (by simp[h1,h2]),if_neg h1]
theorem predsJ_new{bs:List D.MBlock}{k j:Nat}(hj:j<(ix bs k).End.To.length)(h:¬(k:Int)∈predsJ bs k j (ix (ix bs k).End.To j))(b:Int) :
  predsJ bs k (j+1) b=if b=ix (ix bs k).End.To j then predsJ bs k j b++[(k:Int)] else predsJ bs k j b:=by
 rw[predsJ_mem] at h
 unfold predsJ
 rw[take_ix hj]
 by_cases h1:b=ix (ix bs k).End.To j
 ·subst h1;rw[if_pos (by simp),if_neg h,if_pos rfl];simp
 ·rw[if_neg h1]
  by_cases h2:b∈(ix bs k).End.To.take j
  ·rw[if_pos (by simp[h2]),if_pos h2]
  ·rw[if_neg (by simp[h1,h2]),if_neg h2]
def bfsIn:List Bool→List Int→List Int→List Bool×List Int
 | seen,q,[]=>(seen,q)
 | seen,q,t::ts=>if ix seen t.toNat=true then bfsIn seen q ts else bfsIn (seen.set t.toNat true) (q++[t]) ts
def bfs(bs:List D.MBlock):Nat→List Bool→List Int→List Bool
 | 0,seen,_=>seen
 | _+1,seen,[]=>seen
 | f+1,seen,x::q=>bfs bs f (bfsIn seen (x::q) (ix bs x.toNat).End.To).1 ((bfsIn seen (x::q) (ix bs x.toNat).End.To).2.drop 1)
def reachedM(bs:List D.MBlock):List Bool:=bfs bs bs.length ((List.replicate bs.length false).set 0 true) [0]
def cntF(l:List Bool):Nat:=l.countP (fun x=>!x)
theorem cntF_set{l:List Bool}{i:Nat}(hi:i<l.length)(h:¬ix l i=true):cntF (l.set i true)+1=cntF l:=by
 unfold cntF
 have h2:l[i]=false:=by rw[←ix_eq hi];simpa using h
 rw[List.countP_set hi]
 have:0<l.countP (fun x=>!x):=List.countP_pos_iff.2 ⟨_,List.getElem_mem hi,by simp[h2]⟩
 simp[h2];omega
def badPhi(bs:List D.MBlock)(b:Nat)(p:D.Phi):Bool:=decide (b=0)||!decide (p.In.map (·.From)=predsM bs b)
def graphPhis(bs:List D.MBlock):Nat→List D.MBlock→Int×Int×Int
 | _,[]=>(0,0,0)
 | b,x::l=>match x.Phis.findIdx? (badPhi bs b) with
  | some i=>(16,b,-1-i)
  | none=>graphPhis bs (b+1) l
def graphM(m:D.MFunc):Int×Int×Int:=if 0≤idxM (reachedM m.Blocks) (fun x=>false==x) then (15,idxM (reachedM m.Blocks) (fun x=>false==x),0) else graphPhis m.Blocks 0 m.Blocks
def eqfM(a:List D.In)(b:List Int):Bool:=decide (a.map (·.From)=b)
theorem eqf_len{a:List D.In}{b:List Int}(h:¬a.length=b.length):eqfM a b=false:=by simp only[eqfM,decide_eq_false_iff_not];intro h1;have:=congrArg List.length h1;simp at this;omega
theorem eqf_at{a:List D.In}{b:List Int}{k:Nat}(h1:k<a.length)(h2:a.length=b.length)(h:¬(ix a k).From=ix b k):eqfM a b=false:=by
 simp only[eqfM,decide_eq_false_iff_not]
 rintro rfl
 rw[ix_eq h1,ix_eq (by simpa using h1)] at h
 simp at h
theorem eqf_yes{a:List D.In}{b:List Int}{k:Nat}(h1:a.length≤k)(h2:a.length=b.length)(h:(a.take k).map (·.From)=b.take k):eqfM a b=true:=by
 rw[List.take_of_length_le h1,List.take_of_length_le (by omega)] at h
 simp[eqfM,h]
def hasM(l:List Int)(x:Int):Bool:=decide (x∈l)
theorem has_any(l:List Int)(x:Int):decide (0≤idxM l (fun y=>decide (x=y)))=hasM l x:=by
 rw[idx_any];unfold anyM hasM
 rw[Bool.eq_iff_iff,List.any_eq_true,decide_eq_true_eq]
 constructor
 ·rintro⟨y,hy,h⟩;simp at h;subst h;exact hy
 ·intro h;exact⟨x,h,by simp⟩
section
variable{bs:List D.MBlock}{k j n:Nat}{ls:List (List Int)}
theorem stepOld(hj:j<(ix bs k).End.To.length)(hls:∀b:Nat,b<n→ls.getD b []=predsJ bs k j b)(ht:0≤ix (ix bs k).End.To j∧ix (ix bs k).End.To j<n)(h:hasM (ls.getD (ix (ix bs k).End.To j).toNat []) k=true) :
  ∀b:Nat,b<n→ls.getD b []=predsJ bs k (j+1) b:=by
 intro b hb
 have h1:=hls (ix (ix bs k).End.To j).toNat (by omega)
 rw[show(((ix (ix bs k).End.To j).toNat:Nat):Int)=ix (ix bs k).End.To j by omega] at h1
 unfold hasM at h;rw[h1,decide_eq_true_eq] at h
 rw[predsJ_old hj h];exact hls b hb
theorem stepNew(hj:j<(ix bs k).End.To.length)(hls:∀b:Nat,b<n→ls.getD b []=predsJ bs k j b)(ht:0≤ix (ix bs k).End.To j∧ix (ix bs k).End.To j<n)(hl:ls.length=n)(h:hasM (ls.getD (ix (ix bs k).End.To j).toNat []) k=false) :
  ∀b:Nat,b<n→(ls.set (ix (ix bs k).End.To j).toNat (ls.getD (ix (ix bs k).End.To j).toNat []++[(k:Int)])).getD b []=predsJ bs k (j+1) b:=by
 intro b hb
 have h1:=hls (ix (ix bs k).End.To j).toNat (by omega)
 rw[show(((ix (ix bs k).End.To j).toNat:Nat):Int)=ix (ix bs k).End.To j by omega] at h1
 unfold hasM at h;rw[h1,decide_eq_false_iff_not] at h
 rw[predsJ_new hj h]
 by_cases e1:b=(ix (ix bs k).End.To j).toNat
 ·subst e1
  rw[if_pos (by omega),h1,show(((ix (ix bs k).End.To j).toNat:Nat):Int)=ix (ix bs k).End.To j by omega]
  have:(ix (ix bs k).End.To j).toNat<ls.length:=by omega
  simp[List.getD,this]
 ·rw[if_neg (by omega),←hls b hb]
  simp[List.getD,List.getElem?_set_ne (Ne.symm e1)]
theorem rows_len(hl:ls.length=n)(hn:n<1073741824)(hls:∀b:Nat,b<n→ls.getD b []=predsT bs k b)(hk:k≤n):∀l∈ls,l.length<1073741824:=by
 intro l hm
 obtain⟨i,hi,rfl⟩:=List.mem_iff_getElem.1 hm
 have h1:=hls i (by omega)
 rw[List.getD,List.getElem?_eq_getElem hi] at h1
 simp only[Option.getD_some] at h1
 rw[h1]
 have:=predsT_len bs k i
 omega
theorem row_len(hn:n<1073741824)(hls:∀b:Nat,b<n→ls.getD b []=predsJ bs k j b)(hk:k<n){t:Nat}(ht:t<n):(ls.getD t []).length<1073741825:=by
 rw[hls t ht];have:=predsJ_len bs k j t;omega
theorem cnt_start(hn:0<n):cntF ((List.replicate n false).set 0 true)+[(0:Int)].length≤n:=by
 have:=cntF_set (l:=List.replicate n false) (i:=0) (by simpa using hn) (by rw[ix_eq (by simpa using hn)];simp)
 have h2:cntF (List.replicate n false)=n:=by unfold cntF;rw[List.countP_replicate];rfl
 simp only[List.length_cons,List.length_nil];omega
theorem bfs_nil(f:Nat)(se:List Bool):bfs bs f se []=se:=by cases f<;>rfl
theorem bfs_step{f:Nat}{se:List Bool}{q:List Int}(hf:0<f)(hq:0<q.length):bfs bs f se q=bfs bs (f-1) (bfsIn se q (ix bs (ix q 0).toNat).End.To).1 ((bfsIn se q (ix bs (ix q 0).toNat).End.To).2.drop 1):=by
 obtain⟨f,rfl⟩:∃g,f=g+1:=⟨f-1,by omega⟩
 match q,hq with
 | x::q,_=>rfl
theorem phis_bad{l:List D.MBlock}(hk:k<l.length){i:Nat}(hi:i<(ix l k).Phis.length)(hG:graphPhis bs 0 l=graphPhis bs k (l.drop k))(hno:∀p∈(ix l k).Phis.take i,badPhi bs k p=false)(h:badPhi bs k (ix (ix l k).Phis i)=true):graphPhis bs 0 l=(16,(k:Int),-1-(i:Int)):=by
 rw[hG,drop_ix hk,graphPhis]
 have:=idx_hit hi hno h
 unfold idxM at this
 split at this
 ·rename_i a ha;(try rw[ha]);have:a=i:=by omega
  subst this;rfl
 ·omega
theorem phis_good{l:List D.MBlock}(hk:k<l.length){i:Nat}(hi:(ix l k).Phis.length≤i)(hG:graphPhis bs 0 l=graphPhis bs k (l.drop k))(hno:∀p∈(ix l k).Phis.take i,badPhi bs k p=false):graphPhis bs 0 l=graphPhis bs (k+1) (l.drop (k+1)):=by
 rw[hG,drop_ix hk,graphPhis]
 rw[List.take_of_length_le hi] at hno
 rw[List.findIdx?_eq_none_iff.2 hno]
end
def idxInt(l:List Int)(x:Int):Int:=idxM l (fun y=>decide (x=y))
theorem idxInt_ct{a0:Value}{l:List Int}{N0:Nat}(x:Int):Tv Tryz.prog 169 #[a0,.int .i64 x] [dv (rLn N0 (rI .i64)) a0 l] [] (.int .i64 (idxInt l x)):=by
 refine jenter (args:=[a0,.int .i64 x]) Tryz.func169 rfl rfl rfl fun w0 X=>?_
 refine jq (jr (ja Z (jn (jx (jq (jq (jr (jm Z (jdq d0 fun q1 w1=>js (jln U22 d0 Z) (jm Z ?_))))))))))
 refine jn (jx (jb ?_))
 refine jlp (fun(k:Nat)=>⟨k≤l.length∧(∀y∈l.take k,decide (x=y)=false),[dv (rLn N0 (rI .i64)) a0 l],[],[(0,a0),(1,.int .i64 x),(7,.int .i64 (↑(List.length l))),(8,.int .i64 (↑k))],l.length-k⟩) 0 ⟨by omega,by simp⟩ (dc d0 dn) kn ⟨Z,Z,Z,eqI (by omega),trivial⟩ ?_
 rintro k;dsimp only;rintro⟨hk,hR⟩
 refine jq (jr (js (jlss Z Z) (jn (jx (jq ?_)))))
 refine jif Z (fun hc1=>?_) (fun hc1=>?_)
 refine jsk (jx (jq (jb (jq (jr (jm Z (ja Z (jn (jx (jq (jr ?_)))))))))))
 refine jm Z (jm Z (jm Z (js (jix U22 Z3 d0 Z Z Z (by omega)) (js (jlI (dix d0 k (by omega)) O3 Z) (js (jeql Z Z) (jn (jx ?_)))))))
 refine jif Z (fun hc2=>?_) (fun hc2=>?_)
 refine jq (jr (jm Z (ja Z (jn (jx (jrt (jbr (jtr (jtr (jbr (jtr ?_)))))))))))
 exact jrI Z Z (idx_hit (q:=fun y=>decide (x=y)) (by omega) hR (decide_eq_true hc2))
 refine jsk (jbn (jx (jr (js (jadd Z Z (by omega)) (jm Z (jn ?_))))))
 exact jag (k+1) ⟨by omega,no_snoc (q:=fun y=>decide (x=y)) (by omega) hR (decide_eq_false hc2)⟩ (dc d0 dn) kn ⟨Z,Z,Z,eqI (by omega),trivial⟩
 refine jex (jtx (jtx (jbh (jx (jq (jr (ja Z (jn (jx (jrt ?_))))))))))
 exact jrI Z Z (idx_none (q:=fun y=>decide (x=y)) (by omega) hR)
def idxBool(l:List Bool)(x:Bool):Int:=idxM l (fun y=>(x==y))
theorem idxBool_ct{a0:Value}{l:List Bool}{N0:Nat}(x:Bool):Tv Tryz.prog 137 #[a0,.bool x] [dv (rLn N0 rB) a0 l] [] (.int .i64 (idxBool l x)):=by
 refine jenter (args:=[a0,.bool x]) Tryz.func137 rfl rfl rfl fun w0 X=>?_
 refine jq (jr (ja Z (jn (jx (jq (jq (jr (jm Z (jdq d0 fun q1 w1=>js (jln U93 d0 Z) (jm Z ?_))))))))))
 refine jn (jx (jb ?_))
 refine jlp (fun(k:Nat)=>⟨k≤l.length∧(∀y∈l.take k,(x==y)=false),[dv (rLn N0 rB) a0 l],[],[(0,a0),(1,.bool x),(7,.int .i64 (↑(List.length l))),(8,.int .i64 (↑k))],l.length-k⟩) 0 ⟨by omega,by simp⟩ (dc d0 dn) kn ⟨Z,Z,Z,eqI (by omega),trivial⟩ ?_
 rintro k;dsimp only;rintro⟨hk,hR⟩
 refine jq (jr (js (jlss Z Z) (jn (jx (jq ?_)))))
 refine jif Z (fun hc1=>?_) (fun hc1=>?_)
 refine jsk (jx (jq (jb (jq (jr (jm Z (ja Z (jn (jx (jq (jr ?_)))))))))))
 refine jm Z (jm Z (jm Z (js (jix U93 Z4 d0 Z Z Z (by omega)) (js (jlB (dix d0 k (by omega)) O4 Z) (js (jeqlB U4 Z Z) (jn (jx ?_)))))))
 refine jif Z (fun hc2=>?_) (fun hc2=>?_)
 refine jq (jr (jm Z (ja Z (jn (jx (jrt (jbr (jtr (jtr (jbr (jtr ?_)))))))))))
 exact jrI Z Z (idx_hit (q:=fun y=>(x==y)) (by omega) hR hc2)
 refine jsk (jbn (jx (jr (js (jadd Z Z (by omega)) (jm Z (jn ?_))))))
 exact jag (k+1) ⟨by omega,no_snoc (q:=fun y=>(x==y)) (by omega) hR hc2⟩ (dc d0 dn) kn ⟨Z,Z,Z,eqI (by omega),trivial⟩
 refine jex (jtx (jtx (jbh (jx (jq (jr (ja Z (jn (jx (jrt ?_))))))))))
 exact jrI Z Z (idx_none (q:=fun y=>(x==y)) (by omega) hR)
theorem has_ct{a0:Value}{l:List Int}{N0:Nat}(x:Int):Tv Tryz.prog 136 #[a0,.int .i64 x] [dv (rLn N0 (rI .i64)) a0 l] [] (.bool (hasM l x)):=by
 refine jenter (args:=[a0,.int .i64 x]) Tryz.func136 rfl rfl rfl fun w0 X=>?_
 refine jq (jr (ja Z (jn (jx (jq (jr (jm Z (jm Z (jdq d0 fun q1 w1=>jcv E169 Z Z (idxInt_ct x) (dc d0 dn) kn (js (jgeq Z Z) ?_))))))))))
 refine ja Z (jn (jx (jrt ?_)))
 exact jrB Z Z ((has_any l x).symm)
theorem pGraph1_ct{x:D.In}(y:Int):Tv Tryz.prog 139 #[vIn x (),.int .i64 y] [da rIn (vIn x ()) x] [] (.bool ((fun(x:D.In) (y:Int)=>decide (x.From=y)) x y)):=by
 refine jenter (args:=[vIn x (),.int .i64 y]) Tryz.func139 rfl rfl rfl fun w0 X=>?_
 refine jq (jr (jbox Z Z fun g2=>ja Z (jn (jx (jq (jr (js (jf F64_0 Z) (js (jl k0 O3 Z Z) (jm Z (js (jeql Z Z) ?_))))))))))
 refine ja Z (jn (jx (jrt ?_)))
 exact jrB Z Z (by rfl)
theorem eqf_ct{a0:Value}{a:List D.In}{a1:Value}{b:List Int}:Tv Tryz.prog 138 #[a0,a1,.func (.func 139) #[] #[]] [dv (rL rIn) a0 a,dv (rL (rI .i64)) a1 b] [] (.bool (eqfM a b )):=by
 refine jenter (args:=[a0,a1,.func (.func 139) #[] #[]]) Tryz.func138 rfl rfl rfl fun w0 X=>?_
 refine jq (jr (ja Z (jn (jx (jq (jq (jr (jm Z (jdq d0 fun q1 w1=>js (jln U60 d0 Z) (jm Z ?_))))))))))
 refine jdq d1 fun q2 w2=>js (jln U22 d1 Z) (js (jneq Z Z) (jn (jx ?_)))
 refine jif Z (fun hc1=>?_) (fun hc1=>?_)
 refine jq (jr (ja Z (jn (jx (jrt (jtr ?_))))))
 exact jrB Z Z (eqf_len (by omega))
 refine jsk (jx (jq (jq (jr (jm Z (js (jln U60 d0 Z) (jm Z (jn (jx (jb ?_))))))))))
 refine jlp (fun(k:Nat)=>⟨k≤a.length∧(a.take k).map (·.From)=b.take k,[dv (rL rIn) a0 a,dv (rL (rI .i64)) a1 b],[],[(1,a1),(2,.func (.func 139) #[] #[]),(15,a0),(16,.int .i64 (↑(List.length a))),(17,.int .i64 (↑k))],a.length-k⟩) 0 ⟨by omega,rfl⟩ (dc d0 (dc d1 dn)) kn ⟨Z,Z,Z,Z,eqI (by omega),trivial⟩ ?_
 rintro k;dsimp only;rintro⟨hk,hR⟩
 refine jq (jr (js (jlss Z Z) (jn (jx (jq ?_)))))
 refine jif Z (fun hc2=>?_) (fun hc2=>?_)
 refine jsk (jx (jq (jb (jq (jr (jm Z (js (jix U60 Z64 d0 Z Z Z (by omega)) (jA sIn (jlA (dix d0 k (by omega)) A64 Z64 Z) fun _=>jalc J64 Z fun g8=>ja Z (jsta k0 Z64 Z Z Z ⟨Z,Z,trivial⟩ (saf Z) ?_)))))))))
 refine jn (jx (jq (jr (jm Z (jm Z (js (jix U22 Z3 d2 Z Z Z (by omega)) (js (jlI (dix d2 k (by omega)) O3 Z) (ja Z (jn (jx (jq ?_)))))))))))
 refine jr (jm Z (js (jla k0 A64 Z64 Z Z Z) (jm Z (jcv E139 Z Z (pGraph1_ct (ix b k)) (dc d0 dn) kn (js (jnot Z) (jn (jx ?_)))))))
 refine jif Z (fun hc3=>?_) (fun hc3=>?_)
 refine jq (jr (ja Z (jn (jx (jrt (jbr (jtr (jtr (jbr (jtr ?_))))))))))
 exact jrB Z Z (eqf_at (k:=k) (by omega) (by omega) hc3)
 refine jsk (jbn (jx (jr (js (jadd Z Z (by omega)) (jm Z (jn ?_))))))
 exact jag (k+1) ⟨by omega,by rw[take_ix (by omega),take_ix (by omega),List.map_append,hR];simp[hc3]⟩ (dc d1 (dc d2 dn)) kn ⟨Z,Z,Z,Z,eqI (by omega),trivial⟩
 refine jex (jtx (jtx (jbh (jx (jq (jr (ja Z (jn (jx (jrt ?_))))))))))
 exact jrB Z Z (eqf_yes (k:=k) (by omega) (by omega) hR)
abbrev U26:=@Tryz.underlying26
abbrev U52:=@Tryz.underlying52
theorem A37:∃d,Tryz.prog.underlying 37=some d∧(match d with | .struct _ | .array _ _=>true|_=>false)=true:=⟨_,Tryz.underlying37,rfl⟩
theorem E136:Ent Tryz.prog 136:=⟨_,Tryz.func136,by kernel_rfl,by kernel_rfl⟩
theorem E137:Ent Tryz.prog 137:=⟨_,Tryz.func137,by kernel_rfl,by kernel_rfl⟩
theorem E138:Ent Tryz.prog 138:=⟨_,Tryz.func138,by kernel_rfl,by kernel_rfl⟩
theorem F28_1:Fld Tryz.prog 28 1 1:=⟨_,_,Tryz.underlying28,rfl,rfl,1,(by unfold Sz;kernel_rfl),by decide⟩
theorem F37_0:Fld Tryz.prog 37 0 0:=⟨_,_,Tryz.underlying37,rfl,rfl,1,(by unfold Sz;kernel_rfl),by decide⟩
theorem F37_2:Fld Tryz.prog 37 2 2:=⟨_,_,Tryz.underlying37,rfl,rfl,5,(by unfold Sz;kernel_rfl),by decide⟩
theorem I22:(Tryz.prog.info? 22).map (fun i=>(i.zero,i.size,i.bytes))=some (some (.slice none 0 0),1,24):=by kernel_rfl
theorem I4:(Tryz.prog.info? 4).map (fun i=>(i.zero,i.size,i.bytes))=some (some (.bool false),1,1):=by kernel_rfl
theorem O26:One Tryz.prog 26:=⟨_,Tryz.underlying26,rfl⟩
theorem O32:One Tryz.prog 32:=⟨_,Tryz.underlying32,rfl⟩
theorem Z22:Sz Tryz.prog 22 1:=by unfold Sz;kernel_rfl
theorem Z37:Sz Tryz.prog 37 7:=by unfold Sz;kernel_rfl
theorem J37:(Tryz.prog.info? 37).bind (·.zero)=some (.agg #[.slice none 0 0,.slice none 0 0,.int .i64 0,.int .i64 0,.int .i64 0,.slice none 0 0,.int .i32 0]):=by kernel_rfl
theorem J62:(Tryz.prog.info? 62).bind (·.zero)=some (.agg #[.int .i64 0,.slice none 0 0]):=by kernel_rfl
theorem bad_yes{bs:List D.MBlock}{ls:List (List Int)}{k:Nat}{p:D.Phi}(hk:k<bs.length)(hls:∀b:Nat,b<bs.length→ls.getD b []=predsT bs bs.length b)(h:(k:Int)=0∨eqfM p.In (ix ls k)=false):badPhi bs k p=true:=by
 have h1:ix ls k=predsM bs k:=hls k hk
 unfold badPhi
 rcases h with h|h
 ·rw[decide_eq_true (by omega)];rfl
 ·rw[h1] at h;unfold eqfM at h;rw[h];simp
theorem bad_no{bs:List D.MBlock}{ls:List (List Int)}{k:Nat}{p:D.Phi}(hk:k<bs.length)(hls:∀b:Nat,b<bs.length→ls.getD b []=predsT bs bs.length b)(h:¬(k:Int)=0∧eqfM p.In (ix ls k)=true):badPhi bs k p=false:=by
 have h1:ix ls k=predsM bs k:=hls k hk
 unfold badPhi
 obtain⟨h,h2⟩:=h
 rw[h1] at h2;unfold eqfM at h2;rw[h2,decide_eq_false (by omega)];rfl
section
variable{m:D.MFunc}{f:Nat}{se:List Bool}{q:List Int}
theorem graph_re(hb:reachedM m.Blocks=bfs m.Blocks f se q)(hq:q=[]):reachedM m.Blocks=se:=by rw[hb,hq,bfs_nil]
theorem graph_15(hb:reachedM m.Blocks=bfs m.Blocks f se q)(hq:q=[])(h:0≤idxBool se false):graphM m=(15,idxBool se false,0):=by
 unfold graphM;rw[graph_re hb hq];unfold idxBool at h ⊢;rw[if_pos h]
theorem graph_no(hb:reachedM m.Blocks=bfs m.Blocks f se q)(hq:q=[])(h:¬0≤idxBool se false):graphM m=graphPhis m.Blocks 0 m.Blocks:=by
 unfold graphM;rw[graph_re hb hq];unfold idxBool at h;rw[if_neg h]
theorem graph_16(hb:reachedM m.Blocks=bfs m.Blocks f se q)(hq:q=[])(h:¬0≤idxBool se false){k i:Nat}(hk:k<m.Blocks.length)(hi:i<(ix m.Blocks k).Phis.length)(hG:graphPhis m.Blocks 0 m.Blocks=graphPhis m.Blocks k (m.Blocks.drop k))(hno:∀p∈(ix m.Blocks k).Phis.take i,badPhi m.Blocks k p=false)(h2:badPhi m.Blocks k (ix (ix m.Blocks k).Phis i)=true):graphM m=(16,(k:Int),-1-(i:Int)):=by
 rw[graph_no hb hq h];exact phis_bad hk hi hG hno h2
theorem graph_0(hb:reachedM m.Blocks=bfs m.Blocks f se q)(hq:q=[])(h:¬0≤idxBool se false){k:Nat}(hk:m.Blocks.length≤k)(hG:graphPhis m.Blocks 0 m.Blocks=graphPhis m.Blocks k (m.Blocks.drop k)):graphM m=(0,0,0):=by
 rw[graph_no hb hq h,hG,List.drop_of_length_le hk];rfl
end
set_option maxRecDepth 4000 in
theorem pGraph_ct{a0:Value}{m:D.MFunc}(hn:0<m.Blocks.length)(hT:∀x∈m.Blocks,∀t∈x.End.To,1≤t∧t<m.Blocks.length):Tv Tryz.prog 93 #[vMFunc m a0] [da rMFunc (vMFunc m a0) m] [] (.tuple #[.int .i64 ((graphM m).1),.int .i64 ((graphM m).2.1),.int .i64 ((graphM m).2.2)]):=by
 refine jenter (args:=[vMFunc m a0]) Tryz.func93 rfl rfl rfl fun w0 X=>?_
 refine jq (jr (jbox Z Z fun g1=>ja Z (ja Z (ja Z (jn (jx (jq (jr (js (jf F28_1 Z) (js (jl k0 O26 Z Z) ?_))))))))))
 refine jdq (rMFunc.cB d0) fun q1 w1=>js (jln U26 (rMFunc.cB d0) Z) (jmk (m:=(List.length m.Blocks)) (r:=rV) U52 I22 Z Z Z Z Z (by omega) (wV Z) Z fun g22=>jrn (r:=(rI .i64)) (T:=3) (List.length m.Blocks) (ja Z (jn (jx (jq (jr (js (jf F28_1 Z) (js (jl k2 O26 Z Z) (js (jln U26 (rMFunc.cB d0) Z) ?_)))))))))
 refine jmk (m:=(List.length m.Blocks)) (r:=rB) U93 I4 Z Z Z Z Z (by omega) wB Z fun g26=>ja Z (jn (jx (jq (jq (jr (js (jf F28_1 Z) (js (jl k3 O26 Z Z) (js (jln U26 (rMFunc.cB d0) Z) (jm Z (jn ?_))))))))))
 refine jx (jb ?_)
 refine jlp (u3 fun(k:Nat) (vs:List Value) (ls:List (List Int))=>⟨k≤m.Blocks.length∧vs.length=m.Blocks.length∧ls.length=m.Blocks.length∧(∀b:Nat,b<m.Blocks.length→ls.getD b []=predsT m.Blocks k b),[da rMFunc (vMFunc m a0) m],[gl X.n rB 4 (.slice (some ⟨g26,0,none⟩) (List.length m.Blocks) (List.length m.Blocks)) (List.replicate (List.length m.Blocks) false),rw' X.n (rI .i64) 3 vs ls,gl X.n rV 22 (.slice (some ⟨g22,0,none⟩) (List.length m.Blocks) (List.length m.Blocks)) vs,bx g1 28 [.int .i64 m.Params,a0]],[(1,.pointer (some ⟨g1,0,none⟩)),(2,.int .i64 0),(3,.int .i64 0),(4,.int .i64 0),(5,(.slice (some ⟨g22,0,none⟩) (List.length m.Blocks) (List.length m.Blocks))),(6,(.slice (some ⟨g26,0,none⟩) (List.length m.Blocks) (List.length m.Blocks))),(28,a0),(29,.int .i64 (↑(List.length m.Blocks))),(30,.int .i64 (↑k))],m.Blocks.length-k⟩) (0,List.replicate (List.length m.Blocks) (.slice none 0 0),List.replicate (List.length m.Blocks) []) ⟨by dsimp only;omega,by simp,by simp,by intro b hb;simp[predsT,List.getD,hb]⟩ (dc d0 dn) (kd (kd kn)) ⟨Z,Z,Z,Z,Z,Z,Z,Z,eqI (by omega),trivial⟩ ?_
 rintro⟨k,vs,ls⟩;dsimp only[u3];rintro⟨hk,hv,hl,hls⟩
 refine jq (jr (js (jlss Z Z) (jn (jx (jq ?_)))))
 refine jif Z (fun hc1=>?_) (fun hc1=>?_)
 refine jsk (jx (jq (jb (jq (jr (jm Z (js (jix U26 Z37 (rMFunc.cB d0) Z Z Z (by omega)) (jA3 sMBlock (jlA (dix (rMFunc.cB d0) k (by omega)) A37 Z37 Z) fun c34a c34b c34c=>jalc J37 Z fun g8=>ja Z (jdq (rMBlock.cP d0) fun q3 w3=>?_)))))))))
 refine jdq (rMBlock.cI d0) fun q4 w4=>jdq (rMBlock.cT d0) fun q5 w5=>jsta k0 Z37 Z Z Z ⟨w3.one,w4.one,Z,Z,Z,w5.one,Z,trivial⟩ (saf Z) (jn (jx (jq (jr (js (jf F37_2 Z) (js (jf F35_3 Z) (js (jl k0 O22 Z Z) (js (jln U22 (rMBlock.cT d0) Z) (jm Z ?_)))))))))
 refine jn (jx (jb ?_))
 refine jlp (u3 fun(j:Nat) (vs2:List Value) (ls2:List (List Int))=>⟨j≤(ix m.Blocks k).End.To.length∧vs2.length=m.Blocks.length∧ls2.length=m.Blocks.length∧(∀b:Nat,b<m.Blocks.length→ls2.getD b []=predsJ m.Blocks k j b),[da rMBlock (vMBlock (ix m.Blocks k) (c34a,c34b,c34c)) (ix m.Blocks k),da rMFunc (vMFunc m a0) m],[gl X.n rB 4 (.slice (some ⟨g26,0,none⟩) (List.length m.Blocks) (List.length m.Blocks)) (List.replicate (List.length m.Blocks) false),rw' X.n (rI .i64) 3 vs2 ls2,gl X.n rV 22 (.slice (some ⟨g22,0,none⟩) (List.length m.Blocks) (List.length m.Blocks)) vs2,bx g1 28 [.int .i64 m.Params,a0]],[(1,.pointer (some ⟨g1,0,none⟩)),(2,.int .i64 0),(3,.int .i64 0),(4,.int .i64 0),(5,(.slice (some ⟨g22,0,none⟩) (List.length m.Blocks) (List.length m.Blocks))),(6,(.slice (some ⟨g26,0,none⟩) (List.length m.Blocks) (List.length m.Blocks))),(7,.int .i64 (↑k)),(28,a0),(29,.int .i64 (↑(List.length m.Blocks))),(30,.int .i64 (↑k)),(37,c34c),(38,.int .i64 (↑(List.length (((ix m.Blocks k).End).To)))),(39,.int .i64 (↑j))],(ix m.Blocks k).End.To.length-j⟩) (0,vs,ls) ⟨by dsimp only;omega,hv,hl,by dsimp only;intro b hb;rw[predsJ_zero];exact hls b hb⟩ (dc d0 (dc d1 dn)) (kc k1 (kc k1 (kc k1 (kc k1 kn)))) ⟨Z,Z,Z,Z,Z,Z,Z,Z,Z,Z,Z,Z,eqI (by omega),trivial⟩ ?_
 rintro⟨j,vs2,ls2⟩;dsimp only[u3];rintro⟨hj,hv2,hl2,hls2⟩
 refine jq (jr (js (jlss Z Z) (jn (jx (jq ?_)))))
 refine jif Z (fun hc2=>?_) (fun hc2=>?_)
 have htj:=hT _ (ix_mem (l:=m.Blocks) (i:=k) (by omega)) _ (ix_mem (l:=(ix m.Blocks k).End.To) (i:=j) (by omega))
 have hrl:=row_len (by omega) hls2 (by omega) (show(ix (ix m.Blocks k).End.To j).toNat<m.Blocks.length by omega)
 refine jsk (jx (jq (jb (jq (jr (js (jix U22 Z3 (rMBlock.cT d0) Z Z Z (by omega)) (js (jlI (dix (rMBlock.cT d0) j (by omega)) O3 Z) (ja Z (jn (jx (jq ?_)))))))))))
 refine jr (jm Z (jm Z (js (jig (i:=(Int.toNat (ix (((ix m.Blocks k).End).To) j))) U52 Z22 k2 Z Z (by omega) (by omega)) (js (jgW k2 (by omega) O22 Z) (jm Z (jro (Int.toNat (ix (((ix m.Blocks k).End).To) j)) k1 (by omega) (by omega) (jgo k0 fun w7=>jc E136 Z Z (Tv.temp 4294967296 (has_ct ↑k) (by omega)) dn (kc k0 kn) (fun _=>p0) (fun _=>p1) fun _=>jrx k0 k0 (by omega) (by omega) (js (jnot Z) (jn ?_)))))))))
 refine jx ?_
 refine jif Z (fun hc3=>?_) (fun hc3=>?_)
 refine jr (jm Z (jm Z (jm Z (jm Z (js (jig (i:=(Int.toNat (ix (((ix m.Blocks k).End).To) j))) U52 Z22 k2 Z Z (by omega) (by omega)) (js (jgW k2 (by omega) O22 Z) (jm Z (jro (Int.toNat (ix (((ix m.Blocks k).End).To) j)) k0 (by omega) (by omega) (jgo k0 fun w9=>japv U22 I3 (by decide) Z Z k0 Z (wI (wp (IntWalk.i64_in _ (by omega)))) (by omega) (fun _=>Z) fun v58 _ w10=>js (jig (i:=(Int.toNat (ix (((ix m.Blocks k).End).To) j))) U52 Z22 k3 Z Z (by omega) (by omega)) ?_)))))))))
 refine jsg k3 Z Z22 Z Z w10.one (by omega) (wV w10.one) (jru k1 k1 (by omega) (by omega) (jn (jbn (jx (jr (js (jadd Z Z (by omega)) (jm Z (jn ?_))))))))
 exact jag (j+1,List.set vs2 (Int.toNat (ix (((ix m.Blocks k).End).To) j)) v58,List.set ls2 (Int.toNat (ix (((ix m.Blocks k).End).To) j)) ((List.getD ls2 (Int.toNat (ix (((ix m.Blocks k).End).To) j)) [])++[((k:Nat):Int)])) ⟨by dsimp only;omega,by dsimp only;first|exact hv2|(rw[List.length_set];exact hv2),by dsimp only;first|exact hl2|(rw[List.length_set];exact hl2),by dsimp only;first|exact stepOld (by omega) hls2 (by omega) hc3|exact stepNew (by omega) hls2 (by omega) hl2 hc3⟩ (dc d0 (dc d1 dn)) (kc k2 (kd (kc k0 kn))) ⟨Z,Z,Z,Z,Z,Z,Z,Z,Z,Z,Z,Z,eqI (by omega),trivial⟩
 refine jsk (jbn (jx (jr (js (jadd Z Z (by omega)) (jm Z (jn ?_))))))
 exact jag (j+1,vs2,ls2) ⟨by dsimp only;omega,by dsimp only;first|exact hv2|(rw[List.length_set];exact hv2),by dsimp only;first|exact hl2|(rw[List.length_set];exact hl2),by dsimp only;first|exact stepOld (by omega) hls2 (by omega) hc3|exact stepNew (by omega) hls2 (by omega) hl2 hc3⟩ (dc d0 (dc d1 dn)) (kc k1 (kd (kc k0 kn))) ⟨Z,Z,Z,Z,Z,Z,Z,Z,Z,Z,Z,Z,eqI (by omega),trivial⟩
 refine jex (jtx (jtx (jbh (jbn (jx (jr (js (jadd Z Z (by omega)) (jm Z (jn ?_)))))))))
 exact jag (k+1,vs2,ls2) ⟨by dsimp only;omega,by dsimp only;exact hv2,by dsimp only;exact hl2,by dsimp only;intro b hb;rw[hls2 b hb,predsJ_end _ _ _ _ (by omega)]⟩ (dc d1 dn) (kd (kd kn)) ⟨Z,Z,Z,Z,Z,Z,Z,Z,eqI (by omega),trivial⟩
 refine jex (jtx (jtx (jbh (jx (jq (cfr k2 k1 (by omega) (by omega) (rows_len hl (by omega) hls hk) (jr (jm Z (js (jig (i:=0) U93 Z4 k0 Z Z Z (by rw[lrep];omega)) (jsg k0 Z Z4 Z Z Z (by rw[lrep];omega) wB (jn ?_)))))))))))
 refine jx (jq (jq (jr (jlit (r:=(rI .i64)) (l:=[0]) U22 I3 (by decide) Z Z Z (lV Z Z (wI (wl 0)) ln) fun g64=>ja Z (jn (jx (jb (jgw k0 Z (by simp) ?_))))))))
 refine jlp (u4 fun(f:Nat) (se:List Bool) (q:List Int) (vq:Value)=>⟨reachedM m.Blocks=bfs m.Blocks f se q∧cntF se+q.length≤f∧f≤m.Blocks.length∧se.length=m.Blocks.length∧(∀x∈q,0≤x∧x<m.Blocks.length),[dv (rL (rL (rI .i64))) (.slice (some ⟨g22,0,none⟩) (List.length m.Blocks) (List.length m.Blocks)) ls,da rMFunc (vMFunc m a0) m],[wn X.n (rI .i64) 3 vq q,gl X.n rB 4 (.slice (some ⟨g26,0,none⟩) (List.length m.Blocks) (List.length m.Blocks)) se,bx g1 28 [.int .i64 m.Params,a0]],[(1,.pointer (some ⟨g1,0,none⟩)),(2,.int .i64 0),(3,.int .i64 0),(4,.int .i64 0),(5,(.slice (some ⟨g22,0,none⟩) (List.length m.Blocks) (List.length m.Blocks))),(6,(.slice (some ⟨g26,0,none⟩) (List.length m.Blocks) (List.length m.Blocks))),(11,vq)],f⟩) (m.Blocks.length,List.set (List.replicate (List.length m.Blocks) false) 0 true,[0],(.slice (some ⟨g64,0,none⟩) 1 1)) ⟨rfl,cnt_start hn,Nat.le_refl _,by simp,by simp;omega⟩ (dc d0 (dc d1 dn)) (kd (kc k0 kn)) ⟨Z,Z,Z,Z,Z,Z,Z,trivial⟩ ?_
 rintro⟨f,se,q,vq⟩;dsimp only[u4];rintro⟨hb,hcn,hfn,hse,hq⟩
 refine cgw k0 fun w12=>jq (jq (jr (jm Z (js (jlw U22 k0 Z) (js (jgtr Z Z) (jn (jx ?_)))))))
 refine jif Z (fun hc4=>?_) (fun hc4=>?_)
 have hq1:=hq _ (ix_mem (l:=q) (i:=0) (by omega))
 refine jsk (jx (jq (jb (jq (jstl Mixed (by kernel_rfl) (jt (jf F28_1 Z) (jt (jl k2 O26 Z Z) (jt (jmv Z) (jt (jiw (i:=0) U22 Z3 k0 Z Z Z (by omega)) (jt (jwI k0 (by omega) O3 Z) (jt (jix (i:=(Int.toNat (ix q 0))) U26 Z37 (rMFunc.cB d1) Z Z (by omega) (by omega)) ?_)))))))))))
 refine jt (jf F37_2 Z) (jt (jf F35_3 Z) (jtv (jlV (rEnd.A_To (rMBlock.A_End (dix (rMFunc.cB d1) (Int.toNat (ix q 0)) (by omega)))) O22 Z Z) fun v78 q13 w13=>jt (jln U22 d0 Z) (jt (jmv Z) (jdn (jx (jb ?_))))))
 refine jlp (u4 fun(j:Nat) (se2:List Bool) (q2:List Int) (vq2:Value)=>⟨j≤(ix m.Blocks (Int.toNat (ix q 0))).End.To.length∧bfsIn se2 q2 ((ix m.Blocks (Int.toNat (ix q 0))).End.To.drop j)=bfsIn se q (ix m.Blocks (Int.toNat (ix q 0))).End.To∧cntF se2+q2.length=cntF se+q.length∧se2.length=m.Blocks.length∧(∀x∈q2,0≤x∧x<m.Blocks.length)∧0<q2.length,[dv (rL (rI .i64)) v78 (((ix m.Blocks (Int.toNat (ix q 0))).End).To),dv (rL (rL (rI .i64))) (.slice (some ⟨g22,0,none⟩) (List.length m.Blocks) (List.length m.Blocks)) ls,da rMFunc (vMFunc m a0) m],[wn X.n (rI .i64) 3 vq2 q2,gl X.n rB 4 (.slice (some ⟨g26,0,none⟩) (List.length m.Blocks) (List.length m.Blocks)) se2,bx g1 28 [.int .i64 m.Params,a0]],[(1,.pointer (some ⟨g1,0,none⟩)),(2,.int .i64 0),(3,.int .i64 0),(4,.int .i64 0),(5,(.slice (some ⟨g22,0,none⟩) (List.length m.Blocks) (List.length m.Blocks))),(6,(.slice (some ⟨g26,0,none⟩) (List.length m.Blocks) (List.length m.Blocks))),(11,vq2),(78,v78),(79,.int .i64 (↑(List.length (((ix m.Blocks (Int.toNat (ix q 0))).End).To)))),(80,.int .i64 (↑j))],(ix m.Blocks (Int.toNat (ix q 0))).End.To.length-j⟩) (0,se,q,vq) ⟨by dsimp only;omega,rfl,rfl,hse,hq,by dsimp only;omega⟩ (dc d0 (dc d1 (dc d2 dn))) (kd (kc k0 kn)) ⟨Z,Z,Z,Z,Z,Z,Z,Z,Z,eqI (by omega),trivial⟩ ?_
 rintro⟨j,se2,q2,vq2⟩;dsimp only[u4];rintro⟨hj,hIn,hcn2,hse2,hq2,hq0⟩
 refine cgw k0 fun w15=>jq (jr (js (jlss Z Z) (jn (jx (jq ?_)))))
 refine jif Z (fun hc5=>?_) (fun hc5=>?_)
 have htq:=hT _ (ix_mem (l:=m.Blocks) (i:=Int.toNat (ix q 0)) (by omega)) _ (ix_mem (l:=(ix m.Blocks (Int.toNat (ix q 0))).End.To) (i:=j) (by omega))
 refine jsk (jx (jq (jb (jq (jr (js (jix U22 Z3 d0 Z Z Z (by omega)) (js (jlI (dix d0 j (by omega)) O3 Z) (ja Z (jn (jx (jq ?_)))))))))))
 refine jr (jm Z (jm Z (js (jig (i:=(Int.toNat (ix (((ix m.Blocks (Int.toNat (ix q 0))).End).To) j))) U93 Z4 k1 Z Z (by omega) (by omega)) (js (jgB k1 (by omega) O4 Z) (js (jnot Z) (jn (jx ?_)))))))
 refine jif Z (fun hc6=>?_) (fun hc6=>?_)
 refine jq (jr (jm Z (jm Z (js (jig (i:=(Int.toNat (ix (((ix m.Blocks (Int.toNat (ix q 0))).End).To) j))) U93 Z4 k1 Z Z (by omega) (by omega)) (jsg k1 Z Z4 Z Z Z (by omega) wB (jn (jx (jr (jm Z (jm Z (jlit (r:=(rI .i64)) (l:=[ix (((ix m.Blocks (Int.toNat (ix q 0))).End).To) j]) U22 I3 (by decide) Z Z Z (lV Z Z (wI (wad (dix d0 j (by omega)))) ln) fun g94=>?_)))))))))))
 refine jaw U22 I3 (by decide) Z Z k2 k0 Z Z (by omega) fun v95 w16=>ja Z (jn (jbn (jx (jr (js (jadd Z Z (by omega)) (jm Z (jn ?_)))))))
 exact jag (j+1,List.set se2 (Int.toNat (ix (((ix m.Blocks (Int.toNat (ix q 0))).End).To) j)) true,q2++[ix (((ix m.Blocks (Int.toNat (ix q 0))).End).To) j],v95) ⟨by dsimp only;omega,by dsimp only;rw[←hIn,drop_ix (l:=(ix m.Blocks (Int.toNat (ix q 0))).End.To) (i:=j) (by omega)];simp only[bfsIn];rw[if_neg (by rw[hc6];decide)],by dsimp only;have h9:=cntF_set (l:=se2) (i:=Int.toNat (ix (ix m.Blocks (Int.toNat (ix q 0))).End.To j)) (by omega) (by rw[hc6];decide);rw[List.length_append];simp;omega,by dsimp only;rw[List.length_set];exact hse2,by dsimp only;intro x hx9;rcases List.mem_append.1 hx9 with h9|h9;(· exact hq2 x h9);(simp at h9;subst h9;omega),by dsimp only;rw[List.length_append];simp⟩ (dc d0 (dc d1 (dc d2 dn))) (kd (kc k0 kn)) ⟨Z,Z,Z,Z,Z,Z,Z,Z,Z,eqI (by omega),trivial⟩
 refine jsk (jbn (jx (jr (js (jadd Z Z (by omega)) (jm Z (jn ?_))))))
 exact jag (j+1,se2,q2,vq2) ⟨by dsimp only;omega,by dsimp only;rw[←hIn,drop_ix (l:=(ix m.Blocks (Int.toNat (ix q 0))).End.To) (i:=j) (by omega)];simp only[bfsIn];rw[if_pos hc6],hcn2,hse2,hq2,hq0⟩ (dc d0 (dc d1 (dc d2 dn))) (kd (kc k0 kn)) ⟨Z,Z,Z,Z,Z,Z,Z,Z,Z,eqI (by omega),trivial⟩
 refine jex (jtx (jtx (jbh (jbn (jx (jr (jm Z (jsw (lo:=1) U22 Z3 k0 Z Z Z (by omega) fun v69 w17=>ja Z (jn ?_)))))))))
 exact jag (f-1,se2,List.drop 1 q2,v69) ⟨by dsimp only;rw[hb,bfs_step (by omega) (by omega),←hIn,List.drop_of_length_le (by omega)];rfl,by dsimp only;rw[List.length_drop];omega,by dsimp only;omega,hse2,by dsimp only;intro x hx9;exact hq2 x (List.mem_of_mem_drop hx9)⟩ (dc d1 (dc d2 dn)) (kd (kc k0 kn)) ⟨Z,Z,Z,Z,Z,Z,Z,trivial⟩
 have hq9:q=[]:=List.eq_nil_of_length_eq_zero (by omega)
 refine jex (jtx (jtx (jbh (jx (jq (jq (jr (jm Z (jc E137 Z Z (Tv.temp 4294967296 (idxBool_ct false) (by omega)) dn (kc k1 kn) (fun _=>p0) (fun _=>p1) fun _=>ja Z (jn ?_))))))))))
 refine jx (jq (jr (jm Z (js (jgeq Z Z) (jn (jx ?_))))))
 refine jif Z (fun hc7=>?_) (fun hc7=>?_)
 refine jq (jr (jm Z (ja Z (ja Z (ja Z (jn (jx (jrt (jtr ?_)))))))))
 exact jr3 Z Z Z Z () (tIII (by first|exact graph_15 hb hq9 hc7|exact graph_16 hb hq9 hc7 (by omega) (by omega) hG hno (bad_yes (by omega) hls hc10)|exact graph_0 hb hq9 hc7 (by omega) hG)) dn (fun _ _=>kn)
 rw[show k=m.Blocks.length by omega] at hls
 refine jsk (jx (jq (jq (jr (js (jf F28_1 Z) (js (jl k2 O26 Z Z) (js (jln U26 (rMFunc.cB d1) Z) (jm Z (jn (jx (jb ?_)))))))))))
 refine jlp (fun(k5:Nat)=>⟨k5≤m.Blocks.length∧graphPhis m.Blocks 0 m.Blocks=graphPhis m.Blocks k5 (m.Blocks.drop k5),[dv (rL (rL (rI .i64))) (.slice (some ⟨g22,0,none⟩) (List.length m.Blocks) (List.length m.Blocks)) ls,da rMFunc (vMFunc m a0) m],[],[(5,(.slice (some ⟨g22,0,none⟩) (List.length m.Blocks) (List.length m.Blocks))),(103,a0),(104,.int .i64 (↑(List.length m.Blocks))),(105,.int .i64 (↑k5))],m.Blocks.length-k5⟩) 0 ⟨by omega,rfl⟩ (dc d0 (dc d1 dn)) kn ⟨Z,Z,Z,eqI (by omega),trivial⟩ ?_
 rintro k5;dsimp only;rintro⟨hk5,hG⟩
 refine jq (jr (js (jlss Z Z) (jn (jx (jq ?_)))))
 refine jif Z (fun hc8=>?_) (fun hc8=>?_)
 refine jsk (jx (jq (jb (jq (jr (jm Z (js (jix U26 Z37 (rMFunc.cB d1) Z Z Z (by omega)) (jA3 sMBlock (jlA (dix (rMFunc.cB d1) k5 (by omega)) A37 Z37 Z) fun c109a c109b c109c=>jalc J37 Z fun g16=>ja Z (jdq (rMBlock.cP d0) fun q19 w19=>?_)))))))))
 refine jdq (rMBlock.cI d0) fun q20 w20=>jdq (rMBlock.cT d0) fun q21 w21=>jsta k0 Z37 Z Z Z ⟨w19.one,w20.one,Z,Z,Z,w21.one,Z,trivial⟩ (saf Z) (jn (jx (jq (jr (js (jf F37_0 Z) (js (jl k0 O32 Z Z) (js (jln U32 (rMBlock.cP d0) Z) (jm Z (jn ?_)))))))))
 refine jx (jb ?_)
 refine jlp (fun(i6:Nat)=>⟨i6≤(ix m.Blocks k5).Phis.length∧(∀p∈(ix m.Blocks k5).Phis.take i6,badPhi m.Blocks k5 p=false),[da rMBlock (vMBlock (ix m.Blocks k5) (c109a,c109b,c109c)) (ix m.Blocks k5),dv (rL (rL (rI .i64))) (.slice (some ⟨g22,0,none⟩) (List.length m.Blocks) (List.length m.Blocks)) ls,da rMFunc (vMFunc m a0) m],[],[(5,(.slice (some ⟨g22,0,none⟩) (List.length m.Blocks) (List.length m.Blocks))),(15,.int .i64 (↑k5)),(103,a0),(104,.int .i64 (↑(List.length m.Blocks))),(105,.int .i64 (↑k5)),(111,c109a),(112,.int .i64 (↑(List.length ((ix m.Blocks k5).Phis)))),(113,.int .i64 (↑i6))],(ix m.Blocks k5).Phis.length-i6⟩) 0 ⟨by omega,by simp⟩ (dc d0 (dc d1 (dc d2 dn))) kn ⟨Z,Z,Z,Z,Z,Z,Z,eqI (by omega),trivial⟩ ?_
 rintro i6;dsimp only;rintro⟨hi6,hno⟩
 refine jq (jr (js (jlss Z Z) (jn (jx (jq ?_)))))
 refine jif Z (fun hc9=>?_) (fun hc9=>?_)
 refine jsk (jx (jq (jb (jq (jr (jm Z (js (jix U32 Z62 (rMBlock.cP d0) Z Z Z (by omega)) (jA sPhi (jlA (dix (rMBlock.cP d0) i6 (by omega)) A62 Z62 Z) fun c117=>jalc J62 Z fun g18=>ja Z (jdq (rPhi.c_In d0) fun q23 w23=>?_)))))))))
 refine jsta k0 Z62 Z Z Z ⟨Z,w23.one,trivial⟩ (saf Z) (jn (jx (jq (jany false (.a 0 (.a 1 (.a 2 (.a 3 (.a 4 (.a 5 (.a 6 (.a 7 (.a 8 (.o 9 (.a 10 (.a 11 .e)))))))))))) Mixed (by kernel_rfl) (kc k0 kn) fun F24=>jy Z (jmv Z) (jy Z (jeql Z Z) (jy Z (jmv Z) (jyg Z Z Z (.f _) (fun hg=>jf F62_1 Z) (jyg Z Z Z (.f _) (fun hg=>jl k0 O60 (evg Z hg) Z) (jyg Z Z Z (.f _) (fun hg=>jmv Z) (jyg Z Z Z (.f _) (fun hg=>jmv Z) ?_))))))))))
 refine adq d2 fun q25 w25=>jyg Z Z Z (.f _) (fun hg=>jix U52 Z22 d2 (evg Z hg) (evg Z hg) Z (by first|omega|(simp at hg;omega)|(simp only[List.length_set];omega)|(simp;done))) (jyge (q:=fun v=>dv (rL (rI .i64)) v (ix ls k5)) Z Z Z (.f _) (fun hg=>xlV (dix d2 k5 (by first|omega|(simp at hg;omega)|(simp only[List.length_set];omega)|(simp;done))) O22 Z (evg Z hg)) fun v126=>jyo Z (jgc Z Z (.f _) E138 Z (fun hg=>evl3 (evg Z hg) (evg Z hg) Z) (fun hg=>eqf_ct) (fun hg=>(dc (rPhi.c_In d2) (dc (d1.on hg) dn))) kn p0 (jyn d0 (kc k0 kn) (jyg Z Z Z (.f _) (fun hg=>jnot (evg Z hg)) (jy Z (jor Z Z) (jyd (jx ?_)))))))
 refine jif Z (fun hc10=>?_) (fun hc10=>?_)
 refine jq (jr (jm Z (jm Z (js (jsub Z Z (by omega)) (ja Z (ja Z (ja Z (jn (jx (jrt (jbr ?_)))))))))))
 refine jtr (jtr (jbr (jbr (jtr (jtr (jbr (jtr ?_)))))))
 exact jr3 Z Z Z Z () (tIII (by first|exact graph_15 hb hq9 hc7|exact graph_16 hb hq9 hc7 (by omega) (by omega) hG hno (bad_yes (by omega) hls hc10)|exact graph_0 hb hq9 hc7 (by omega) hG)) dn (fun _ _=>kn)
 refine jsk (jbn (jx (jr (js (jadd Z Z (by omega)) (jm Z (jn ?_))))))
 exact jag (i6+1) ⟨by omega,no_snoc (by omega) hno (bad_no (by omega) hls hc10)⟩ (dc d3 (dc d4 (dc d5 dn))) kn ⟨Z,Z,Z,Z,Z,Z,Z,eqI (by omega),trivial⟩
 refine jex (jtx (jtx (jbh (jbn (jx (jr (js (jadd Z Z (by omega)) (jm Z (jn ?_)))))))))
 exact jag (k5+1) ⟨by omega,phis_good (by omega) (by omega) hG hno⟩ (dc d1 (dc d2 dn)) kn ⟨Z,Z,Z,eqI (by omega),trivial⟩
 refine jex (jtx (jtx (jbh (jx (jq (jr (ja Z (ja Z (ja Z (jn (jx ?_)))))))))))
 refine jrt ?_
 exact jr3 Z Z Z Z () (tIII (by first|exact graph_15 hb hq9 hc7|exact graph_16 hb hq9 hc7 (by omega) (by omega) hG hno (bad_yes (by omega) hls hc10)|exact graph_0 hb hq9 hc7 (by omega) hG)) dn (fun _ _=>kn)
abbrev U33:=@Tryz.underlying33
theorem A28:∃d,Tryz.prog.underlying 28=some d∧(match d with | .struct _ | .array _ _=>true|_=>false)=true:=⟨_,Tryz.underlying28,rfl⟩
theorem E61:Ent Tryz.prog 61:=⟨_,Tryz.func61,by kernel_rfl,by kernel_rfl⟩
theorem E90:Ent Tryz.prog 90:=⟨_,Tryz.func90,by kernel_rfl,by kernel_rfl⟩
theorem E91:Ent Tryz.prog 91:=⟨_,Tryz.func91,by kernel_rfl,by kernel_rfl⟩
theorem E92:Ent Tryz.prog 92:=⟨_,Tryz.func92,by kernel_rfl,by kernel_rfl⟩
theorem E93:Ent Tryz.prog 93:=⟨_,Tryz.func93,by kernel_rfl,by kernel_rfl⟩
theorem F28_0:Fld Tryz.prog 28 0 0:=⟨_,_,Tryz.underlying28,rfl,rfl,1,(by unfold Sz;kernel_rfl),by decide⟩
theorem F37_1:Fld Tryz.prog 37 1 1:=⟨_,_,Tryz.underlying37,rfl,rfl,1,(by unfold Sz;kernel_rfl),by decide⟩
theorem O33:One Tryz.prog 33:=⟨_,Tryz.underlying33,rfl⟩
theorem Z28:Sz Tryz.prog 28 2:=by unfold Sz;kernel_rfl
theorem J69:(Tryz.prog.info? 69).bind (·.zero)=some (.agg #[.int .i64 0,.int .i64 0,.int .i64 0,.int .i64 0,.int .i64 0,.int .i64 0,.int .i32 0,.slice none 0 0]):=by kernel_rfl
def insW:Nat→List D.Mach→Option (Int×Int)
 | _,[]=>none
 | i,y::l=>if insE y=0 then insW (i+1) l else some (insE y,(i:Int))
def phiW(all:List D.Phi):Nat→List D.Phi→Option (Int×Int)
 | _,[]=>none
 | i,p::l=>if phiE p (all.take i)=0 then phiW all (i+1) l else some (phiE p (all.take i),-1-(i:Int))
def blockW(n:Int)(x:D.MBlock):Option (Int×Int) :=
 match phiW x.Phis 0 x.Phis with
 | some t=>some t
 | none=>match insW 0 x.Ins with
  | some t=>some t
  | none=>if endE x.End n=0 then none else some (endE x.End n,(x.Ins.length:Int))
def thingsW(n:Int):Nat→List D.MBlock→Option (Int×Int×Int)
 | _,[]=>none
 | b,x::l=>match blockW n x with
  | some t=>some (t.1,(b:Int),t.2)
  | none=>thingsW n (b+1) l
def cntB:List D.MBlock→Int
 | []=>0
 | x::l=>x.Phis.length+x.Ins.length+1+cntB l
def funcM(m:D.MFunc):Int×Int×Int :=
 if m.Params<0∨4<m.Params then (1,0,0)
 else if m.Blocks.length=0 then (14,0,0)
 else if 512<m.Blocks.length∨16384<cntB m.Blocks then (2,0,0)
 else match thingsW m.Blocks.length 0 m.Blocks with
  | some t=>t
  | none=>graphM m
def rightM(m:D.MFunc):Bool:=decide ((funcM m).1=0)
section
variable{n:Int}{bs:List D.MBlock}{k i:Nat}
theorem phiW_end{P:List D.Phi}(hi:P.length≤i)(h:phiW P 0 P=phiW P i (P.drop i)):phiW P 0 P=none:=by rw[h,List.drop_of_length_le hi];rfl
theorem insW_end{P:List D.Mach}(hi:P.length≤i)(h:insW 0 P=insW i (P.drop i)):insW 0 P=none:=by rw[h,List.drop_of_length_le hi];rfl
theorem phiW_next{P:List D.Phi}(hi:i<P.length)(h:phiW P 0 P=phiW P i (P.drop i))(h0:phiE (ix P i) (P.take i)=0):phiW P 0 P=phiW P (i+1) (P.drop (i+1)):=by rw[h,drop_ix hi,phiW,if_pos h0]
theorem insW_next{P:List D.Mach}(hi:i<P.length)(h:insW 0 P=insW i (P.drop i))(h0:insE (ix P i)=0):insW 0 P=insW (i+1) (P.drop (i+1)):=by rw[h,drop_ix hi,insW,if_pos h0]
theorem things_phi(hk:k<bs.length)(hB:thingsW n 0 bs=thingsW n k (bs.drop k))(hi:i<(ix bs k).Phis.length)(hP:phiW (ix bs k).Phis 0 (ix bs k).Phis=phiW (ix bs k).Phis i ((ix bs k).Phis.drop i))(h:¬phiE (ix (ix bs k).Phis i) ((ix bs k).Phis.take i)=0) :
  thingsW n 0 bs=some (phiE (ix (ix bs k).Phis i) ((ix bs k).Phis.take i),(k:Int),-1-(i:Int)):=by
 rw[drop_ix hi,phiW,if_neg h] at hP
 rw[hB,drop_ix hk,thingsW,blockW,hP]
theorem things_ins(hk:k<bs.length)(hB:thingsW n 0 bs=thingsW n k (bs.drop k))(hP:phiW (ix bs k).Phis 0 (ix bs k).Phis=none)(hi:i<(ix bs k).Ins.length)(hI:insW 0 (ix bs k).Ins=insW i ((ix bs k).Ins.drop i))(h:¬insE (ix (ix bs k).Ins i)=0) :
  thingsW n 0 bs=some (insE (ix (ix bs k).Ins i),(k:Int),(i:Int)):=by
 rw[drop_ix hi,insW,if_neg h] at hI
 rw[hB,drop_ix hk,thingsW,blockW,hP,hI]
theorem things_end(hk:k<bs.length)(hB:thingsW n 0 bs=thingsW n k (bs.drop k))(hP:phiW (ix bs k).Phis 0 (ix bs k).Phis=none)(hI:insW 0 (ix bs k).Ins=none)(h:¬endE (ix bs k).End n=0) :
  thingsW n 0 bs=some (endE (ix bs k).End n,(k:Int),((ix bs k).Ins.length:Int)):=by
 rw[hB,drop_ix hk,thingsW,blockW,hP,hI]
 simp only[if_neg h]
theorem things_next(hk:k<bs.length)(hB:thingsW n 0 bs=thingsW n k (bs.drop k))(hP:phiW (ix bs k).Phis 0 (ix bs k).Phis=none)(hI:insW 0 (ix bs k).Ins=none)(h:endE (ix bs k).End n=0) :
  thingsW n 0 bs=thingsW n (k+1) (bs.drop (k+1)):=by
 rw[hB,drop_ix hk,thingsW,blockW,hP,hI]
 simp only[if_pos h]
theorem things_done(hk:bs.length≤k)(hB:thingsW n 0 bs=thingsW n k (bs.drop k)):thingsW n 0 bs=none:=by rw[hB,List.drop_of_length_le hk];rfl
theorem things_none:∀(bs:List D.MBlock) (b:Nat),thingsW n b bs=none→∀x∈bs,phiW x.Phis 0 x.Phis=none∧insW 0 x.Ins=none∧endE x.End n=0
 | [],_,_,x,hx=>by cases hx
 | y::l,b,h,x,hx=>by
  rw[thingsW] at h
  cases hb:blockW n y with
  | some t=>rw[hb] at h;cases h
  | none =>
   rw[hb] at h
   rcases List.mem_cons.1 hx with rfl|hx
   ·unfold blockW at hb
    cases h1:phiW x.Phis 0 x.Phis with
    | some t=>rw[h1] at hb;cases hb
    | none =>
     rw[h1] at hb
     cases h2:insW 0 x.Ins with
     | some t=>rw[h2] at hb;cases hb
     | none =>
      rw[h2] at hb
      refine⟨rfl,rfl,?_⟩
      by_cases h3:endE x.End n=0
      ·exact h3
      ·simp only[if_neg h3] at hb;cases hb
   ·exact things_none l _ h x hx
theorem end_to{e:D.End}(h:endE e n=0):toM e=true∧regM (nM9 e)=true∧∀t∈e.To,1≤t∧t<n:=by
 unfold endE at h
 split at h
 ·cases h
 ·split at h
  ·cases h
  ·split at h
   ·cases h
   ·rename_i h1 h2 h3
    refine⟨by simpa using h1,by simpa using h2,fun t ht=>?_⟩
    have:=(List.any_eq_false.1 (by simpa[anyM] using h3)) t ht
    unfold badB at this;simp at this;omega
theorem things_to(h:thingsW n 0 bs=none):∀x∈bs,∀t∈x.End.To,1≤t∧t<n:=fun x hx=>(end_to (things_none bs 0 h x hx).2.2).2.2
end
section
variable{m:D.MFunc}
theorem func_arg(h:m.Params<0∨4<m.Params):funcM m=(1,0,0):=by unfold funcM;rw[if_pos h]
theorem func_block(h:¬m.Params<0∧¬4<m.Params)(h2:(m.Blocks.length:Int)=0):funcM m=(14,0,0):=by unfold funcM;rw[if_neg (by omega),if_pos (by omega)]
theorem func_many(h:¬m.Params<0∧¬4<m.Params)(h2:¬(m.Blocks.length:Int)=0)(h3:512<(m.Blocks.length:Int)∨16384<cntB m.Blocks):funcM m=(2,0,0):=by unfold funcM;rw[if_neg (by omega),if_neg (by omega),if_pos (by omega)]
theorem func_some(h:¬m.Params<0∧¬4<m.Params)(h2:¬(m.Blocks.length:Int)=0)(h3:¬512<(m.Blocks.length:Int)∧¬16384<cntB m.Blocks){t:Int×Int×Int}(h4:thingsW m.Blocks.length 0 m.Blocks=some t):funcM m=t:=by
 unfold funcM;rw[if_neg (by omega),if_neg (by omega),if_neg (by omega),h4]
theorem func_graph(h:¬m.Params<0∧¬4<m.Params)(h2:¬(m.Blocks.length:Int)=0)(h3:¬512<(m.Blocks.length:Int)∧¬16384<cntB m.Blocks)(h4:thingsW m.Blocks.length 0 m.Blocks=none):funcM m=graphM m:=by
 unfold funcM;rw[if_neg (by omega),if_neg (by omega),if_neg (by omega),h4]
end
set_option maxRecDepth 4000 in
theorem pFunc_ct{a0:Value}{m:D.MFunc}:Tv Tryz.prog 61 #[vMFunc m a0] [da rMFunc (vMFunc m a0) m] [] (.tuple #[.int .i64 ((funcM m).1),.int .i64 ((funcM m).2.1),.int .i64 ((funcM m).2.2)]):=by
 refine jenter (args:=[vMFunc m a0]) Tryz.func61 rfl rfl rfl fun w0 X=>?_
 refine jq (jr (jbox Z Z fun g1=>ja Z (ja Z (ja Z (jn (jx (jq (jr (ja Z (jn ?_))))))))))
 refine jx (jq (jq (jr (js (jf F28_1 Z) (js (jl k0 O26 Z Z) (jdq (rMFunc.cB d0) fun q1 w1=>js (jln U26 (rMFunc.cB d0) Z) (jm Z (jn (jx (jb ?_))))))))))
 refine jlp (u2 fun(k:Nat) (c:Int)=>⟨k≤m.Blocks.length∧c+cntB (m.Blocks.drop k)=cntB m.Blocks∧0≤c∧c≤2147483649*k,[da rMFunc (vMFunc m a0) m],[bx g1 28 [.int .i64 m.Params,a0]],[(1,.pointer (some ⟨g1,0,none⟩)),(2,.int .i64 0),(3,.int .i64 0),(4,.int .i64 0),(5,.int .i64 c),(18,a0),(19,.int .i64 (↑(List.length m.Blocks))),(20,.int .i64 (↑k))],m.Blocks.length-k⟩) (0,0) ⟨by dsimp only;omega,by simp,by simp,by simp⟩ (dc d0 dn) (kc k0 kn) ⟨Z,Z,Z,Z,eqI (by omega),Z,Z,eqI (by omega),trivial⟩ ?_
 rintro⟨k,c⟩;dsimp only[u2];rintro⟨hk,hc,h0,hc9⟩
 refine jq (jr (js (jlss Z Z) (jn (jx (jq ?_)))))
 refine jif Z (fun hc1=>?_) (fun hc1=>?_)
 refine jsk (jx (jq (jb (jq (jr (js (jix U26 Z37 (rMFunc.cB d0) Z Z Z (by omega)) (jA3 sMBlock (jlA (dix (rMFunc.cB d0) k (by omega)) A37 Z37 Z) fun c23a c23b c23c=>jalc J37 Z fun g7=>jdq (rMBlock.cP d0) fun q3 w3=>jdq (rMBlock.cI d0) fun q4 w4=>jdq (rMBlock.cT d0) fun q5 w5=>?_)))))))
 refine jsta k0 Z37 Z Z Z ⟨w3.one,w4.one,Z,Z,Z,w5.one,Z,trivial⟩ (saf Z) (jn (jx (jr (jm Z (js (jf F37_0 Z) (js (jl k0 O32 Z Z) (js (jln U32 (rMBlock.cP d0) Z) (js (jf F37_1 Z) (js (jl k0 O33 Z Z) (js (jln U33 (rMBlock.cI d0) Z) (js (jadd Z Z (by omega)) ?_)))))))))))
 refine js (jadd Z Z (by omega)) (js (jadd Z Z (by omega)) (ja Z (jn (jbn (jx (jr (js (jadd Z Z (by omega)) (jm Z (jn ?_)))))))))
 exact jag (k+1,c+(((((List.length ((ix m.Blocks k).Phis):Nat):Int))+(((List.length ((ix m.Blocks k).Ins):Nat):Int)))+1)) ⟨by dsimp only;omega,by dsimp only;rw[←hc,drop_ix (l:=m.Blocks) (i:=k) (by omega),cntB];omega,by dsimp only;omega,by dsimp only;omega⟩ (dc d1 dn) (kc k1 kn) ⟨Z,Z,Z,Z,Z,Z,Z,eqI (by omega),trivial⟩
 have hcnt:c=cntB m.Blocks:=by rw[←hc,List.drop_of_length_le (by omega)];simp[cntB]
 subst hcnt
 refine jex (jtx (jtx (jbh (jx (jq (jb (jq (jr (js (jf F28_0 Z) (js (jl k0 O3 Z Z) (js (jlss Z Z) ?_)))))))))))
 refine jm Z (jg Z Z (.f _) (fun hg=>jf F28_0 Z) (jg Z Z (.f _) (fun hg=>jl k0 O3 (evg Z hg) Z) (jg Z Z (.f _) (fun hg=>jgtr (evg Z hg) Z) (js (jor Z Z) (ja Z (jn (jx ?_)))))))
 refine jif Z (fun hc2=>?_) (fun hc2=>?_)
 refine jq (jr (ja Z (ja Z (ja Z (jn (jx (jrt (jbr (jtr ?_)))))))))
 exact jr3 Z Z Z Z () (tIII (by first|exact func_arg hc2|exact func_block hc2 hc3|exact func_many hc2 hc3 hc4|exact func_some hc2 hc3 hc4 (things_phi (by omega) hB (by omega) hP hc7)|exact func_some hc2 hc3 hc4 (things_ins (by omega) hB (phiW_end (by omega) hP) (by omega) hI hc9)|exact func_some hc2 hc3 hc4 (things_end (by omega) hB (phiW_end (by omega) hP) (insW_end (by omega) hI) hc10)|exact func_graph hc2 hc3 hc4 (things_done (by omega) hB))) dn (fun _ _=>kn)
 refine jq (jr (js (jf F28_1 Z) (js (jl k0 O26 Z Z) (js (jln U26 (rMFunc.cB d0) Z) (js (jeql Z Z) (ja Z (jn (jx ?_))))))))
 refine jif Z (fun hc3=>?_) (fun hc3=>?_)
 refine jq (jr (ja Z (ja Z (ja Z (jn (jx (jrt (jbr (jtr ?_)))))))))
 exact jr3 Z Z Z Z () (tIII (by first|exact func_arg hc2|exact func_block hc2 hc3|exact func_many hc2 hc3 hc4|exact func_some hc2 hc3 hc4 (things_phi (by omega) hB (by omega) hP hc7)|exact func_some hc2 hc3 hc4 (things_ins (by omega) hB (phiW_end (by omega) hP) (by omega) hI hc9)|exact func_some hc2 hc3 hc4 (things_end (by omega) hB (phiW_end (by omega) hP) (insW_end (by omega) hI) hc10)|exact func_graph hc2 hc3 hc4 (things_done (by omega) hB))) dn (fun _ _=>kn)
 refine jq (jr (js (jf F28_1 Z) (js (jl k0 O26 Z Z) (js (jln U26 (rMFunc.cB d0) Z) (js (jgtr Z Z) (jm Z (jg Z Z (.f _) (fun hg=>jmv Z) (jg Z Z (.f _) (fun hg=>jgtr (evg Z hg) Z) (js (jor Z Z) (ja Z (jn ?_)))))))))))
 refine jx ?_
 refine jif Z (fun hc4=>?_) (fun hc4=>?_)
 refine jq (jr (ja Z (ja Z (ja Z (jn (jx (jrt (jbr (jtr ?_)))))))))
 exact jr3 Z Z Z Z () (tIII (by first|exact func_arg hc2|exact func_block hc2 hc3|exact func_many hc2 hc3 hc4|exact func_some hc2 hc3 hc4 (things_phi (by omega) hB (by omega) hP hc7)|exact func_some hc2 hc3 hc4 (things_ins (by omega) hB (phiW_end (by omega) hP) (by omega) hI hc9)|exact func_some hc2 hc3 hc4 (things_end (by omega) hB (phiW_end (by omega) hP) (insW_end (by omega) hI) hc10)|exact func_graph hc2 hc3 hc4 (things_done (by omega) hB))) dn (fun _ _=>kn)
 refine jsk (jbn (jx (jq (jq (jr (js (jf F28_1 Z) (js (jl k0 O26 Z Z) (js (jln U26 (rMFunc.cB d0) Z) (jm Z (jn (jx ?_)))))))))))
 refine jb ?_
 refine jlp (fun(k:Nat)=>⟨k≤m.Blocks.length∧thingsW m.Blocks.length 0 m.Blocks=thingsW m.Blocks.length k (m.Blocks.drop k),[da rMFunc (vMFunc m a0) m],[bx g1 28 [.int .i64 m.Params,a0]],[(1,.pointer (some ⟨g1,0,none⟩)),(59,a0),(60,.int .i64 (↑(List.length m.Blocks))),(61,.int .i64 (↑k))],m.Blocks.length-k⟩) 0 ⟨by omega,rfl⟩ (dc d0 dn) (kc k0 kn) ⟨Z,Z,Z,eqI (by omega),trivial⟩ ?_
 rintro k;dsimp only;rintro⟨hk,hB⟩
 refine jq (jr (js (jlss Z Z) (jn (jx (jq ?_)))))
 refine jif Z (fun hc5=>?_) (fun hc5=>?_)
 refine jsk (jx (jq (jb (jq (jr (jm Z (js (jix U26 Z37 (rMFunc.cB d0) Z Z Z (by omega)) (jA3 sMBlock (jlA (dix (rMFunc.cB d0) k (by omega)) A37 Z37 Z) fun c65a c65b c65c=>jalc J37 Z fun g9=>ja Z (jdq (rMBlock.cP d0) fun q7 w7=>?_)))))))))
 refine jdq (rMBlock.cI d0) fun q8 w8=>jdq (rMBlock.cT d0) fun q9 w9=>jsta k0 Z37 Z Z Z ⟨w7.one,w8.one,Z,Z,Z,w9.one,Z,trivial⟩ (saf Z) (jn (jx (jq (jq (jr (js (jf F37_0 Z) (js (jl k0 O32 Z Z) (js (jln U32 (rMBlock.cP d0) Z) (jm Z ?_)))))))))
 refine jn (jx (jb ?_))
 refine jlp (fun(i:Nat)=>⟨i≤(ix m.Blocks k).Phis.length∧phiW (ix m.Blocks k).Phis 0 (ix m.Blocks k).Phis=phiW (ix m.Blocks k).Phis i ((ix m.Blocks k).Phis.drop i),[da rMBlock (vMBlock (ix m.Blocks k) (c65a,c65b,c65c)) (ix m.Blocks k),da rMFunc (vMFunc m a0) m],[bx g9 37 [c65a,c65b,.int .i64 (((ix m.Blocks k).End).Op),.int .i64 (((ix m.Blocks k).End).A),.int .i64 (((ix m.Blocks k).End).B),c65c,.int .i32 (((ix m.Blocks k).End).Imm)],bx g1 28 [.int .i64 m.Params,a0]],[(1,.pointer (some ⟨g1,0,none⟩)),(8,.int .i64 (↑k)),(9,.pointer (some ⟨g9,0,none⟩)),(59,a0),(60,.int .i64 (↑(List.length m.Blocks))),(61,.int .i64 (↑k)),(67,c65a),(68,.int .i64 (↑(List.length ((ix m.Blocks k).Phis)))),(69,.int .i64 (↑i))],(ix m.Blocks k).Phis.length-i⟩) 0 ⟨by omega,rfl⟩ (dc d0 (dc d1 dn)) (kd kn) ⟨Z,Z,Z,Z,Z,Z,Z,Z,eqI (by omega),trivial⟩ ?_
 rintro i;dsimp only;rintro⟨hi,hP⟩
 refine jq (jr (js (jlss Z Z) (jn (jx (jq ?_)))))
 refine jif Z (fun hc6=>?_) (fun hc6=>?_)
 refine jsk (jx (jq (jb (jq (jr (jm Z (js (jix U32 Z62 (rMBlock.cP d0) Z Z Z (by omega)) (jA sPhi (jlA (dix (rMBlock.cP d0) i (by omega)) A62 Z62 Z) fun c73=>jalc J62 Z fun g11=>ja Z (jdq (rPhi.c_In d0) fun q11 w11=>?_)))))))))
 refine jsta k0 Z62 Z Z Z ⟨Z,w11.one,trivial⟩ (saf Z) (jn (jx (jq (jtl 5 Mixed (by kernel_rfl) (jt (jla k0 A62 Z62 Z Z Z) (jt (jf F37_0 Z) (jt (jl k1 O32 Z Z) (jt (jmv Z) (jt (jshi (hi:=i) U32 Z62 (rMBlock.cP d1) Z Z Z (by omega)) (jtt (jdq (dhi (rMBlock.cP d1) i (by omega) (by omega)) fun q12 w12=>?_)))))))))))
 refine jcv E90 Z Z pPhi_ct (dc d0 (dc (dhi (rMBlock.cP d1) i (by omega) (by omega)) dn)) kn (ja Z (jn (jx (jq (jr (jm Z (js (jneq Z Z) (jn (jx ?_)))))))))
 refine jif Z (fun hc7=>?_) (fun hc7=>?_)
 refine jq (jr (jm Z (jm Z (jm Z (js (jsub Z Z (by omega)) (ja Z (ja Z (ja Z (jn (jx (jrt ?_)))))))))))
 refine jbr (jtr (jtr (jbr (jtr (jbr (jtr (jtr (jbr (jtr ?_)))))))))
 exact jr3 Z Z Z Z () (tIII (by first|exact func_arg hc2|exact func_block hc2 hc3|exact func_many hc2 hc3 hc4|exact func_some hc2 hc3 hc4 (things_phi (by omega) hB (by omega) hP hc7)|exact func_some hc2 hc3 hc4 (things_ins (by omega) hB (phiW_end (by omega) hP) (by omega) hI hc9)|exact func_some hc2 hc3 hc4 (things_end (by omega) hB (phiW_end (by omega) hP) (insW_end (by omega) hI) hc10)|exact func_graph hc2 hc3 hc4 (things_done (by omega) hB))) dn (fun _ _=>kn)
 refine jsk (jbn (jx (jr (js (jadd Z Z (by omega)) (jm Z (jn ?_))))))
 exact jag (i+1) ⟨by omega,phiW_next (by omega) hP hc7⟩ (dc d1 (dc d2 dn)) (kc k1 (kc k1 kn)) ⟨Z,Z,Z,Z,Z,Z,Z,Z,eqI (by omega),trivial⟩
 refine jex (jtx (jtx (jbh (jx (jq (jq (jr (js (jf F37_1 Z) (js (jl k0 O33 Z Z) (js (jln U33 (rMBlock.cI d0) Z) (jm Z ?_)))))))))))
 refine jn (jx (jb ?_))
 refine jlp (fun(j:Nat)=>⟨j≤(ix m.Blocks k).Ins.length∧insW 0 (ix m.Blocks k).Ins=insW j ((ix m.Blocks k).Ins.drop j),[da rMBlock (vMBlock (ix m.Blocks k) (c65a,c65b,c65c)) (ix m.Blocks k),da rMFunc (vMFunc m a0) m],[bx g9 37 [c65a,c65b,.int .i64 (((ix m.Blocks k).End).Op),.int .i64 (((ix m.Blocks k).End).A),.int .i64 (((ix m.Blocks k).End).B),c65c,.int .i32 (((ix m.Blocks k).End).Imm)],bx g1 28 [.int .i64 m.Params,a0]],[(1,.pointer (some ⟨g1,0,none⟩)),(8,.int .i64 (↑k)),(9,.pointer (some ⟨g9,0,none⟩)),(59,a0),(60,.int .i64 (↑(List.length m.Blocks))),(61,.int .i64 (↑k)),(88,c65b),(89,.int .i64 (↑(List.length ((ix m.Blocks k).Ins)))),(90,.int .i64 (↑j))],(ix m.Blocks k).Ins.length-j⟩) 0 ⟨by omega,rfl⟩ (dc d0 (dc d1 dn)) (kd kn) ⟨Z,Z,Z,Z,Z,Z,Z,Z,eqI (by omega),trivial⟩ ?_
 rintro j;dsimp only;rintro⟨hj,hI⟩
 refine jq (jr (js (jlss Z Z) (jn (jx (jq ?_)))))
 refine jif Z (fun hc8=>?_) (fun hc8=>?_)
 refine jsk (jx (jq (jb (jq (jr (jm Z (js (jix U33 Z69 (rMBlock.cI d0) Z Z Z (by omega)) (jA sMach (jlA (dix (rMBlock.cI d0) j (by omega)) A69 Z69 Z) fun c94=>jalc J69 Z fun g14=>ja Z (jdq (rMach.c_Args d0) fun q14 w14=>?_)))))))))
 refine jsta k0 Z69 Z Z Z ⟨Z,Z,Z,Z,Z,Z,Z,w14.one,trivial⟩ (saf Z) (jn (jx (jq (jr (js (jla k0 A69 Z69 Z Z Z) (jcv E91 Z Z pIns_ct (dc d0 dn) kn (ja Z (jn (jx (jq (jr ?_)))))))))))
 refine jm Z (js (jneq Z Z) (jn (jx ?_)))
 refine jif Z (fun hc9=>?_) (fun hc9=>?_)
 refine jq (jr (jm Z (jm Z (jm Z (ja Z (ja Z (ja Z (jn (jx (jrt (jbr ?_)))))))))))
 refine jtr (jtr (jbr (jtr (jbr (jtr (jtr (jbr (jtr ?_))))))))
 exact jr3 Z Z Z Z () (tIII (by first|exact func_arg hc2|exact func_block hc2 hc3|exact func_many hc2 hc3 hc4|exact func_some hc2 hc3 hc4 (things_phi (by omega) hB (by omega) hP hc7)|exact func_some hc2 hc3 hc4 (things_ins (by omega) hB (phiW_end (by omega) hP) (by omega) hI hc9)|exact func_some hc2 hc3 hc4 (things_end (by omega) hB (phiW_end (by omega) hP) (insW_end (by omega) hI) hc10)|exact func_graph hc2 hc3 hc4 (things_done (by omega) hB))) dn (fun _ _=>kn)
 refine jsk (jbn (jx (jr (js (jadd Z Z (by omega)) (jm Z (jn ?_))))))
 exact jag (j+1) ⟨by omega,insW_next (by omega) hI hc9⟩ (dc d1 (dc d2 dn)) (kc k1 (kc k1 kn)) ⟨Z,Z,Z,Z,Z,Z,Z,Z,eqI (by omega),trivial⟩
 refine jex (jtx (jtx (jbh (jx (jq (jr (js (jf F37_2 Z) (js (jla k0 A35 Z35 Z Z Z) (js (jf F28_1 Z) (js (jl k1 O26 Z Z) (js (jln U26 (rMFunc.cB d1) Z) ?_)))))))))))
 refine jcv E92 Z Z (pEnd_ct (↑(List.length m.Blocks))) (dc (rMBlock.P_End d0) dn) kn (ja Z (jn (jx (jq (jr (jm Z (js (jneq Z Z) (jn (jx ?_)))))))))
 refine jif Z (fun hc10=>?_) (fun hc10=>?_)
 refine jq (jstl Mixed (by kernel_rfl) (jt (jmv Z) (jt (jmv Z) (jt (jf F37_1 Z) (jt (jl k0 O33 Z Z) (jt (jln U33 (rMBlock.cI d0) Z) (jt (jas Z) (jt (jas Z) (jt (jas Z) (jdn (jx ?_)))))))))))
 refine jrt (jbr (jtr (jtr (jbr (jtr ?_)))))
 exact jr3 Z Z Z Z () (tIII (by first|exact func_arg hc2|exact func_block hc2 hc3|exact func_many hc2 hc3 hc4|exact func_some hc2 hc3 hc4 (things_phi (by omega) hB (by omega) hP hc7)|exact func_some hc2 hc3 hc4 (things_ins (by omega) hB (phiW_end (by omega) hP) (by omega) hI hc9)|exact func_some hc2 hc3 hc4 (things_end (by omega) hB (phiW_end (by omega) hP) (insW_end (by omega) hI) hc10)|exact func_graph hc2 hc3 hc4 (things_done (by omega) hB))) dn (fun _ _=>kn)
 refine jsk (jbn (jx (jr (js (jadd Z Z (by omega)) (jm Z (jn ?_))))))
 exact jag (k+1) ⟨by omega,things_next (by omega) hB (phiW_end (by omega) hP) (insW_end (by omega) hI) hc10⟩ (dc d1 dn) (kc k1 kn) ⟨Z,Z,Z,eqI (by omega),trivial⟩
 refine jex (jtx (jtx (jbh (jx (jq (jr (js (jla k0 A28 Z28 Z Z Z) (jcv E93 Z Z (pGraph_ct (by first|omega|exact things_to (things_done (by omega) hB)) (by first|omega|exact things_to (things_done (by omega) hB))) (dc d0 dn) kn (js (jex' Z Z) (js (jex' Z Z) (js (jex' Z Z) ?_)))))))))))
 refine ja Z (ja Z (ja Z (jn (jx (jrt ?_)))))
 exact jr3 Z Z Z Z () (tIII (by first|exact func_arg hc2|exact func_block hc2 hc3|exact func_many hc2 hc3 hc4|exact func_some hc2 hc3 hc4 (things_phi (by omega) hB (by omega) hP hc7)|exact func_some hc2 hc3 hc4 (things_ins (by omega) hB (phiW_end (by omega) hP) (by omega) hI hc9)|exact func_some hc2 hc3 hc4 (things_end (by omega) hB (phiW_end (by omega) hP) (insW_end (by omega) hI) hc10)|exact func_graph hc2 hc3 hc4 (things_done (by omega) hB))) dn (fun _ _=>kn)
theorem pRight_ct{a0:Value}{m:D.MFunc}:Tv Tryz.prog 34 #[vMFunc m a0] [da rMFunc (vMFunc m a0) m] [] (.bool (rightM m)):=by
 refine jenter (args:=[vMFunc m a0]) Tryz.func34 rfl rfl rfl fun w0 X=>?_
 refine jq (jr (jbox Z Z fun g1=>ja Z (jn (jx (jq (jr (js (jla k0 A28 Z28 Z Z Z) (jcv E61 Z Z pFunc_ct (dc d0 dn) kn (jm Z (js (jex' Z Z) ?_))))))))))
 refine js (jex' Z Z) (js (jex' Z Z) (ja Z (ja Z (ja Z (jn (jx (jq (jr (jm Z (js (jeql Z Z) (ja Z ?_)))))))))))
 refine jn (jx (jrt ?_))
 exact jrB Z Z (by rfl)
theorem E84:Ent Tryz.prog 84:=⟨_,Tryz.func84,by kernel_rfl,by kernel_rfl⟩
def isFrom(from':Int)(x:D.In):Bool:=decide (x.From=from')
def phiVal(from':Int)(regs:List Int)(p:D.Phi):Int:=ix regs (Int.toNat (ix p.In (Int.toNat (idxM p.In (isFrom from')))).Val)
def setP:List Int→List D.Phi→List Int→List Int
 | rs,p::l,v::vs=>setP (rs.set (Int.toNat p.Dst) v) l vs
 | rs,_,_=>rs
def phisM(l:List D.Phi)(from':Int)(regs:List Int):List Int:=setP regs l (l.map (phiVal from' regs))
theorem idx_lt{α:Type}(l:List α)(q:α→Bool):idxM l q<l.length:=by
 unfold idxM
 cases h:l.findIdx? q with
 | none=>simp only;omega
 | some i=>obtain⟨hi,_⟩:=List.findIdx?_eq_some_iff_getElem.1 h;simp only;omega
theorem setP_len:∀(rs:List Int) (l:List D.Phi) (vs:List Int),(setP rs l vs).length=rs.length
 | rs,p::l,v::vs=>by rw[setP,setP_len];simp
 | rs,[],_=>by cases ‹List Int›<;>rfl
 | rs,_::_,[]=>rfl
theorem setP_end(rs:List Int)(vs:List Int):setP rs [] vs=rs:=by cases vs<;>rfl
theorem setP_next{rs rs2:List Int}{l:List D.Phi}{vs:List Int}{k:Nat}(h1:k<l.length)(h2:k<vs.length)(h:setP rs l vs=setP rs2 (l.drop k) (vs.drop k)):setP rs l vs=setP (rs2.set (Int.toNat (ix l k).Dst) (ix vs k)) (l.drop (k+1)) (vs.drop (k+1)):=by
 rw[h,drop_ix (l:=l) h1,drop_ix (l:=vs) h2,setP]
def phiOk(from':Int)(n:Nat)(p:D.Phi):Prop:=0≤p.Dst∧p.Dst<n∧0≤idxM p.In (isFrom from')∧∀x∈p.In,0≤x.Val∧x.Val<n
theorem phiOk.v{from':Int}{n:Nat}{p:D.Phi}(h:phiOk from' n p):0≤(ix p.In (Int.toNat (idxM p.In (isFrom from')))).Val∧(ix p.In (Int.toNat (idxM p.In (isFrom from')))).Val<n:=by
 have:=idx_lt p.In (isFrom from')
 exact h.2.2.2 _ (ix_mem (by have:=h.2.2.1;omega))
theorem pPhis1_ct{x:D.In}{c:Int}{g1:Nat}:Tr Tryz.prog 84 #[vIn x (),.pointer (some ⟨g1,0,none⟩)] [da rIn (vIn x ()) x] [bx g1 3 [.int .i64 c]] (fun _:Unit => .bool (isFrom c x)) (fun _=>[]) (fun _ _=>[bx g1 3 [.int .i64 c]]):=by
 refine jenter (args:=[vIn x (),.pointer (some ⟨g1,0,none⟩)]) Tryz.func84 rfl rfl rfl fun w0 X=>?_
 refine jq (jr (jbox Z Z fun g2=>ja Z (jn (jx (jq (jr (js (jf F64_0 Z) (js (jl k0 O3 Z Z) (js (jl k1 O3 Z Z) (js (jeql Z Z) ?_))))))))))
 refine ja Z (jn (jx (jrt ?_)))
 exact jr1 Z Z () (congrArg Value.bool (Eq.symm (by rfl))) dn (fun _ _=>(kc k1 kn))
set_option maxRecDepth 4000 in
theorem pPhis_ct{a0:Value}{l:List D.Phi}(from':Int){a2:Value}{regs:List Int}{B2:Nat}(hrl0:regs.length<1073741824)(hp:∀p∈l,phiOk from' regs.length p):Tr Tryz.prog 57 #[a0,.int .i64 from',a2] [dv (rL rPhi) a0 l] [gl B2 (rI .i32) 21 a2 regs] (fun _:Unit => .tuple #[]) (fun _=>[]) (fun _ _=>[gl B2 (rI .i32) 21 a2 (phisM l (from') regs)]):=by
 refine jenter (args:=[a0,.int .i64 from',a2]) Tryz.func57 rfl rfl rfl fun w0 X=>?_
 refine cgo k0 fun w1=>jq (jr (jbox Z Z fun g4=>jn (jx (jq (jr (ja Z (jn (jx (jq ?_)))))))))
 refine jq (jr (jm Z (jdq d0 fun q2 w2=>js (jln U32 d0 Z) (jm Z (jn (jx (jb (cnl (r:=(rI .i32)) (E:=21) ?_))))))))
 refine jlp (u3 fun(k:Nat) (vo:Value) (vs:List Int)=>⟨k≤l.length∧vs=(l.take k).map (phiVal from' regs),[dv (rL rPhi) a0 l],[gl X.n (rI .i32) 21 vo vs,bx g4 3 [.int .i64 (from')],gl B2 (rI .i32) 21 a2 regs],[(0,a0),(2,a2),(4,.pointer (some ⟨g4,0,none⟩)),(6,vo),(12,a0),(13,.int .i64 (↑(List.length l))),(14,.int .i64 (↑k))],l.length-k⟩) (0,.slice none 0 0,[]) ⟨by dsimp only;omega,rfl⟩ (dc d0 dn) (kd (kc k0 kn)) ⟨Z,Z,Z,Z,Z,Z,eqI (by omega),trivial⟩ ?_
 rintro⟨k,vo,vs⟩;dsimp only[u3];rintro⟨hk,hvs⟩
 refine cgo k0 fun w3=>?_
 have hvl:vs.length=k:=by rw[hvs];simp;omega
 refine jq (jr (js (jlss Z Z) (jn (jx (jq ?_)))))
 refine jif Z (fun hc1=>?_) (fun hc1=>?_)
 have hpk:=hp _ (ix_mem (l:=l) (i:=k) (by omega))
 have hpv:=hpk.v
 have hpi:=idx_lt (ix l k).In (isFrom from')
 obtain⟨hd0,hd1,hi0,_⟩:=hpk
 refine jsk (jx (jq (jb (jq (jr (js (jix U32 Z62 d0 Z Z Z (by omega)) (jA sPhi (jlA (dix d0 k (by omega)) A62 Z62 Z) fun c17=>jalc J62 Z fun g8=>jdq (rPhi.c_In d0) fun q5 w5=>jsta k0 Z62 Z Z Z ⟨Z,w5.one,trivial⟩ (saf Z) (jn ?_))))))))
 refine jx (jq (jr (js (jf F62_1 Z) (js (jl k0 O60 Z Z) (js (jmf1 Z) (jcp E83 Z Z (idxFIn_ct (isFrom from') E84 (fun x _ c=>Tr.it pPhis1_ct ir)) (dc (rPhi.c_In d0) (dc (db dn) dn)) (kc k2 kn) p1 (ja Z (jn (jx (jr (jm Z ?_)))))))))))
 refine jm Z (js (jf F62_1 Z) (js (jl k1 O60 Z Z) (jm Z (js (jix (i:=(Int.toNat (idxM ((ix l k).In) (isFrom from')))) U60 Z64 (rPhi.c_In d0) Z Z (by omega) (by omega)) (js (jf F64_1 Z) (js (jlI (rIn.A_Val (dix (rPhi.c_In d0) (Int.toNat (idxM ((ix l k).In) (isFrom from'))) (by omega))) O3 Z) (js (jig (i:=(Int.toNat ((ix ((ix l k).In) (Int.toNat (idxM ((ix l k).In) (isFrom from')))).Val))) U72 Z21 k3 Z Z (by omega) (by omega)) (js (jgI k3 (by omega) O21 Z) (japv U72 I21 (by decide) Z Z k2 Z (wI (wgl k3 (by omega))) (by omega) (fun _=>Z) fun v33 _ w6=>ja Z (jn ?_))))))))))
 refine jbn (jx (jr (js (jadd Z Z (by omega)) (jm Z (jn ?_)))))
 exact jag (k+1,v33,vs++[ix regs (Int.toNat ((ix ((ix l k).In) (Int.toNat (idxM ((ix l k).In) (isFrom from')))).Val))]) ⟨by dsimp only;omega,by dsimp only;rw[hvs,take_ix (by omega),List.map_append];rfl⟩ (dc d1 dn) (kd (kc k1 kn)) ⟨Z,Z,Z,Z,Z,Z,eqI (by omega),trivial⟩
 have hvl2:vs.length=l.length:=by omega
 refine jex (jtx (jtx (jbh (jx (jq (jr (jm Z (js (jln U32 d0 Z) (jm Z (jn (jx ?_)))))))))))
 refine jb ?_
 refine jlp (u2 fun(k:Nat) (rs:List Int)=>⟨k≤l.length∧setP regs l vs=setP rs (l.drop k) (vs.drop k)∧rs.length=regs.length,[dv (rL rPhi) a0 l],[gl X.n (rI .i32) 21 vo vs,gl B2 (rI .i32) 21 a2 rs],[(2,a2),(6,vo),(35,a0),(36,.int .i64 (↑(List.length l))),(37,.int .i64 (↑k))],l.length-k⟩) (0,regs) ⟨by dsimp only;omega,rfl,rfl⟩ (dc d0 dn) (kc k0 (kc k1 kn)) ⟨Z,Z,Z,Z,eqI (by omega),trivial⟩ ?_
 rintro⟨k,rs⟩;dsimp only[u2];rintro⟨hk,hS,hrl⟩
 refine jq (jr (js (jlss Z Z) (jn (jx (jq ?_)))))
 refine jif Z (fun hc2=>?_) (fun hc2=>?_)
 have hpk:=hp _ (ix_mem (l:=l) (i:=k) (by omega))
 obtain⟨hd0,hd1,hi0,_⟩:=hpk
 refine jsk (jx (jq (jb (jq (jr (jm Z (js (jix U32 Z62 d0 Z Z Z (by omega)) (jA sPhi (jlA (dix d0 k (by omega)) A62 Z62 Z) fun c41=>jalc J62 Z fun g11=>ja Z (jdq (rPhi.c_In d0) fun q8 w8=>?_)))))))))
 refine jsta k0 Z62 Z Z Z ⟨Z,w8.one,trivial⟩ (saf Z) (jn (jx (jtl 8 Mixed (by kernel_rfl) (jt (jmv Z) (jt (jf F62_0 Z) (jt (jl k0 O3 Z Z) (jt (jmv Z) (jt (jmv Z) (jt (jig U72 Z21 k1 Z Z Z (by omega)) (jt (jgI k1 (by omega) O21 Z) (jt (jig (i:=(Int.toNat ((ix l k).Dst))) U72 Z21 k2 Z Z (by omega) (by omega)) ?_)))))))))))
 refine jtt (jsg k2 Z Z21 Z Z Z (by omega) (wI (wgl k1 (by omega))) (jn (jbn (jx (jr (js (jadd Z Z (by omega)) (jm Z (jn ?_))))))))
 exact jag (k+1,List.set rs (Int.toNat ((ix l k).Dst)) (ix vs k)) ⟨by dsimp only;omega,setP_next (by omega) (by omega) hS,by dsimp only;rw[List.length_set];exact hrl⟩ (dc d1 dn) (kc k2 (kc k0 kn)) ⟨Z,Z,Z,Z,eqI (by omega),trivial⟩
 refine jex (jtx (jtx (jbh ?_)))
 exact jd0 Z () Z dn (fun _ _=>(kcg (by have e1:k=l.length:=(by omega);unfold phisM;rw[List.take_of_length_le (by omega)] at hvs;rw[←hvs,hS,List.drop_of_length_le (by omega),setP_end]) k1 kn))
def callR(rs:List Int)(d:Int)(an:List Int):List Int:=rs.set (Int.toNat d) (ix an 0)
def insRun(N:Int)(K:List Int→List Int→List D.Event→List Int→Int→D.Outcome):List D.Mach→List Int→List Int→List D.Event→List Int→Int→D.Outcome
 | [],rs,me,cl,an,s=>K rs me cl an s
 | i::l,rs,me,cl,an,s =>
  if N≤s then ⟨3,0,me,cl,s⟩
  else if i.Op=28 then insRun N K l (callR rs i.D an) me (cl++[⟨i.Imm,i.Args.map (fun r=>ix rs (Int.toNat r))⟩]) (an.drop 1) (s+1)
  else if (stepM i rs me).1.2=false then ⟨2,(stepM i rs me).1.1,(stepM i rs me).2.2,cl,s+1⟩
  else insRun N K l (stepM i rs me).2.1 (stepM i rs me).2.2 cl an (s+1)
def endRun(N:Int)(e:D.End)(go:Int→List Int→List Int→List D.Event→List Int→Int→D.Outcome)(rs me:List Int)(cl:List D.Event)(an:List Int)(s:Int):D.Outcome :=
 if N≤s then ⟨3,0,me,cl,s⟩
 else if e.Op=7 then ⟨1,getM rs e.A,me,cl,s+1⟩
 else if e.Op=8 then ⟨2,e.Imm,me,cl,s+1⟩
 else go (ix e.To (Int.toNat (goesM e rs))) rs me cl an (s+1)
def blockRun(bs:List D.MBlock)(N:Int):Nat→Int→Int→List Int→List Int→List D.Event→List Int→Int→D.Outcome
 | 0,_,_,_,me,cl,_,s=>⟨3,0,me,cl,s⟩
 | f+1,at',from',rs,me,cl,an,s=>insRun N (endRun N (ix bs (Int.toNat at')).End (fun t=>blockRun bs N f t at')) (ix bs (Int.toNat at')).Ins (phisM (ix bs (Int.toNat at')).Phis from' rs) me cl an s
def startR(m:D.MFunc)(i:D.Input):List Int:=List.take (min (Int.toNat m.Params) i.Args.length) i.Args++List.drop (min (Int.toNat m.Params) i.Args.length) (List.replicate 8192 0)
def runM(m:D.MFunc)(i:D.Input):D.Outcome:=if rightM m=false then ⟨4,0,[],[],0⟩ else blockRun m.Blocks i.Steps (Int.toNat i.Steps+1) 0 (-1) (startR m i) (memM i) [] i.Answers 0
theorem blockRun_pos{bs:List D.MBlock}{N:Int}{f:Nat}(hf:0<f)(at' from':Int)(rs me:List Int)(cl:List D.Event)(an:List Int)(s:Int) :
  blockRun bs N f at' from' rs me cl an s=insRun N (endRun N (ix bs (Int.toNat at')).End (fun t=>blockRun bs N (f-1) t at')) (ix bs (Int.toNat at')).Ins (phisM (ix bs (Int.toNat at')).Phis from' rs) me cl an s:=by
 obtain⟨f,rfl⟩:∃g,f=g+1:=⟨f-1,by omega⟩
 rfl
theorem phisM_len(l:List D.Phi)(from':Int)(rs:List Int):(phisM l from' rs).length=rs.length:=setP_len _ _ _
theorem memM_len(i:D.Input):(memM i).length≤4096:=by unfold memM;simp;omega
def StepOk(rs me:List Int)(r:(Int×Bool)×List Int×List Int):Prop:=r.2.1.length=rs.length∧r.2.2.length=me.length
theorem StepOk.ite{rs me:List Int}{c:Prop}[Decidable c]{a b:(Int×Bool)×List Int×List Int}(h1:StepOk rs me a)(h2:StepOk rs me b):StepOk rs me (if c then a else b):=by split<;>assumption
theorem stepM_ok(i:D.Mach)(rs me:List Int):StepOk rs me (stepM i rs me):=by
 unfold stepM
 repeat' apply StepOk.ite
 all_goals (constructor<;>(try simp only[setM_len,storeM_len]))
theorem stepM_len(i:D.Mach)(rs me:List Int):(stepM i rs me).2.1.length=rs.length∧(stepM i rs me).2.2.length=me.length:=stepM_ok i rs me
structure WFm(m:D.MFunc):Prop where
 p0:0≤m.Params∧m.Params≤4
 n0:0<m.Blocks.length∧m.Blocks.length≤512
 ins:∀x∈m.Blocks,∀i∈x.Ins,i.Op=28→0≤i.D∧i.D<8192∧i.Args.length≤4∧∀r∈i.Args,0≤r∧r<8192
 to:∀x∈m.Blocks,toM x.End=true∧∀t∈x.End.To,1≤t∧t<m.Blocks.length
 phi:∀k:Nat,k<m.Blocks.length→∀p∈(ix m.Blocks k).Phis,0<k∧p.In.map (·.From)=predsM m.Blocks k∧0≤p.Dst∧p.Dst<8192∧∀x∈p.In,0≤x.Val∧x.Val<8192
theorem regM_all:∀{l:List Int},regM l=true→∀r∈l,0≤r∧r<8192
 | [],_,r,hr=>by cases hr
 | x::l,h,r,hr=>by
  rw[regM] at h
  split at h
  ·cases h
  ·rcases List.mem_cons.1 hr with rfl|hr
   ·omega
   ·exact regM_all h r hr
theorem insW_none:∀{l:List D.Mach} {k:Nat},insW k l=none→∀i∈l,insE i=0
 | [],_,_,i,hi=>by cases hi
 | y::l,k,h,i,hi=>by
  rw[insW] at h
  split at h
  ·rcases List.mem_cons.1 hi with rfl|hi
   ·assumption
   ·exact insW_none h i hi
  ·cases h
theorem phiW_none{P:List D.Phi}:∀{l:List D.Phi} {k:Nat},phiW P k l=none→∀p∈l,∃j,phiE p (P.take j)=0
 | [],_,_,i,hi=>by cases hi
 | y::l,k,h,i,hi=>by
  rw[phiW] at h
  split at h
  ·rcases List.mem_cons.1 hi with rfl|hi
   ·exact⟨_,by assumption⟩
   ·exact phiW_none h i hi
  ·cases h
theorem graph_none:∀{l:List D.MBlock} {k:Nat} {bs:List D.MBlock},(graphPhis bs k l).1=0→∀j:Nat,j<l.length→∀p∈(ix l j).Phis,badPhi bs (k+j) p=false
 | [],_,_,_,j,hj=>by cases hj
 | x::l,k,bs,h,j,hj=>by
  rw[graphPhis] at h
  cases hf:x.Phis.findIdx? (badPhi bs k) with
  | some i=>rw[hf] at h;cases h
  | none =>
   rw[hf] at h
   intro p hp
   cases j with
   | zero=>exact(List.findIdx?_eq_none_iff.1 hf) p hp
   | succ j =>
    have:=graph_none h j (by simpa using hj) p (by simpa[ix] using hp)
    rw[show k+1+j=k+(j+1) by omega] at this
    exact this
theorem right_wf{m:D.MFunc}(h:rightM m=true):WFm m:=by
 unfold rightM at h
 rw[decide_eq_true_eq] at h
 unfold funcM at h
 split at h
 ·cases h
 split at h
 ·cases h
 split at h
 ·cases h
 rename_i h1 h2 h3
 cases ht:thingsW m.Blocks.length 0 m.Blocks with
 | some t =>
  rw[ht] at h
  exfalso
  have:∀(bs:List D.MBlock) (b:Nat) (n:Int) (t:Int×Int×Int),thingsW n b bs=some t→t.1≠0:=by
   intro bs
   induction bs with
   | nil=>intro b n t h;cases h
   | cons x l ih =>
    intro b n t h
    rw[thingsW] at h
    cases hb:blockW n x with
    | none=>rw[hb] at h;exact ih _ _ _ h
    | some u =>
     rw[hb] at h
     cases h
     show u.1≠0
     unfold blockW at hb
     have hp:∀(P l:List D.Phi) (k:Nat) (u:Int×Int),phiW P k l=some u→u.1≠0:=by
      intro P l
      induction l with
      | nil=>intro k u h;cases h
      | cons p l ih2=>intro k u h;rw[phiW] at h;split at h;(· exact ih2 _ _ h);cases h;assumption
     have hi:∀(l:List D.Mach) (k:Nat) (u:Int×Int),insW k l=some u→u.1≠0:=by
      intro l
      induction l with
      | nil=>intro k u h;cases h
      | cons p l ih2=>intro k u h;rw[insW] at h;split at h;(· exact ih2 _ _ h);cases h;assumption
     cases h1:phiW x.Phis 0 x.Phis with
     | some t=>rw[h1] at hb;cases hb;exact hp _ _ _ _ h1
     | none =>
      rw[h1] at hb
      cases h2:insW 0 x.Ins with
      | some t=>rw[h2] at hb;cases hb;exact hi _ _ _ h2
      | none =>
       rw[h2] at hb
       by_cases h3:endE x.End n=0
       ·simp only[if_pos h3] at hb;cases hb
       ·simp only[if_neg h3] at hb;cases hb;exact h3
  exact this _ _ _ _ ht h
 | none =>
  rw[ht] at h
  replace h:(graphM m).1=0:=h
  have hg:(graphPhis m.Blocks 0 m.Blocks).1=0:=by
   unfold graphM at h;split at h
   ·cases h
   ·exact h
  have hN:=things_none _ _ ht
  refine⟨by omega,⟨by omega,by omega⟩,?_,fun x hx=>?_,?_⟩
  ·intro x hx i hi h28
   have h9:=insW_none (hN x hx).2.1 i hi
   unfold insE at h9
   split at h9
   ·cases h9
   split at h9
   ·cases h9
   rename_i ha hb
   have hm:makesM i=[i.D]:=by unfold makesM;repeat rw[if_neg (by omega)]
   have htk:takesM i=i.Args:=by unfold takesM;(repeat rw[if_neg (by omega)]);rw[if_pos h28]
   rw[hm,htk] at hb
   simp only[not_or,Bool.not_eq_false] at hb
   have hD:=regM_all hb.1 i.D (by simp)
   exact⟨hD.1,hD.2,by omega,regM_all hb.2⟩
  ·have:=end_to (hN x hx).2.2
   exact⟨this.1,this.2.2⟩
  ·intro k hk p hp
   have hb:=graph_none hg k hk p hp
   rw[Nat.zero_add] at hb
   unfold badPhi at hb
   simp only[Bool.or_eq_false_iff,decide_eq_false_iff_not,Bool.not_eq_false',decide_eq_true_eq] at hb
   obtain⟨j,hj⟩:=phiW_none (hN _ (ix_mem hk)).1 p hp
   unfold phiE at hj
   split at hj
   ·cases hj
   rename_i h5
   simp only[not_or,Bool.not_eq_false,Bool.not_eq_true] at h5
   have hD:=regM_all h5.1 p.Dst (by simp)
   refine⟨by omega,hb.2,hD.1,hD.2,fun x hx=>?_⟩
   have h6:=h5.2
   unfold anyM at h6
   rw[List.any_eq_false] at h6
   have h7:=h6 x hx
   simp only[Bool.not_eq_true,Bool.not_eq_false'] at h7
   exact regM_all h7 x.Val (by simp)
section
variable{m:D.MFunc}(hw:WFm m)
include hw
theorem WFm.from0:∀p∈(ix m.Blocks (Int.toNat 0)).Phis,phiOk (-1) 8192 p:=by
 intro p hp
 have:=hw.phi 0 hw.n0.1 p hp
 omega
theorem WFm.from1{at' t:Int}(ha:0≤at'∧at'<m.Blocks.length)(ht:t∈(ix m.Blocks (Int.toNat at')).End.To):(0≤t∧t<m.Blocks.length)∧∀p∈(ix m.Blocks (Int.toNat t)).Phis,phiOk at' 8192 p:=by
 have h1:=(hw.to _ (ix_mem (l:=m.Blocks) (i:=Int.toNat at') (by omega))).2 t ht
 refine⟨by omega,fun p hp=>?_⟩
 obtain⟨h2,h3,h4,h5,h6⟩:=hw.phi (Int.toNat t) (by omega) p hp
 refine⟨h4,h5,?_,h6⟩
 have h7:at'∈p.In.map (·.From):=by
  rw[h3]
  unfold predsM predsT
  refine List.mem_map.2 ⟨Int.toNat at',List.mem_filter.2 ⟨List.mem_range.2 (by omega),?_⟩,by omega⟩
  rw[decide_eq_true_eq,show((Int.toNat t:Nat):Int)=t by omega];exact ht
 obtain⟨x,hx,hx2⟩:=List.mem_map.1 h7
 have h8:=idx_any p.In (isFrom at')
 have h9:anyM p.In (isFrom at')=true:=List.any_eq_true.2 ⟨x,hx,by unfold isFrom;rw[decide_eq_true_eq];exact hx2⟩
 rw[h9,decide_eq_true_eq] at h8
 exact h8
theorem WFm.goes{at':Int}(ha:0≤at'∧at'<m.Blocks.length)(rs:List Int)(h7:¬(ix m.Blocks (Int.toNat at')).End.Op=7)(h8:¬(ix m.Blocks (Int.toNat at')).End.Op=8) :
  0≤goesM (ix m.Blocks (Int.toNat at')).End rs∧goesM (ix m.Blocks (Int.toNat at')).End rs<(ix m.Blocks (Int.toNat at')).End.To.length:=by
 have h1:=(hw.to _ (ix_mem (l:=m.Blocks) (i:=Int.toNat at') (by omega))).1
 generalize (ix m.Blocks (Int.toNat at')).End=e at *
 unfold toM at h1
 rw[decide_eq_true_eq] at h1
 obtain⟨ho1,ho2,hl1,hl2⟩:=h1
 have hu:0≤u32 (getM rs e.A):=by unfold u32;rw[IntKind.wrap_u32];omega
 unfold limLo at hl1
 unfold limHi at hl2
 unfold goesM
 have hc:e.Op=1∨e.Op=2∨e.Op=3∨e.Op=4∨e.Op=5∨e.Op=6:=by omega
 rcases hc with h|h|h|h|h|h<;>simp only[h] at hl1 hl2⊢<;> simp at hl1 hl2⊢<;> (repeat' split)<;>omega
end
theorem startR_len{m:D.MFunc}(hw:WFm m)(i:D.Input):(startR m i).length=8192:=by
 have:=hw.p0
 unfold startR
 simp only[List.length_append,List.length_take,List.length_drop,List.length_replicate];omega
theorem stepM_wr(i:D.Mach)(rs me:List Int):IntKind.i32.wrap (stepM i rs me).1.1=(stepM i rs me).1.1:=by
 have:∀(c:Prop) [Decidable c] (a b:(Int×Bool)×List Int×List Int),IntKind.i32.wrap a.1.1=a.1.1→IntKind.i32.wrap b.1.1=b.1.1→IntKind.i32.wrap (if c then a else b).1.1=(if c then a else b).1.1:=by intro c _ a b h1 h2;split<;>assumption
 unfold stepM
 repeat' apply this
 all_goals first|exact(by decide:IntKind.i32.wrap 0=0)|exact(by decide:IntKind.i32.wrap (-1)=-1)|exact(by decide:IntKind.i32.wrap (-2)=-2)|(dsimp only;split<;>decide)
section
variable{N:Int}{K:List Int→List Int→List D.Event→List Int→Int→D.Outcome}{O:D.Outcome}{I:List D.Mach}{k j:Nat}{rs me an ea:List Int}{cl:List D.Event}{s:Int}
theorem ins_end(hI:O=insRun N K (I.drop k) rs me cl an s)(hk:I.length≤k):O=K rs me cl an s:=by rw[hI,List.drop_of_length_le hk];rfl
theorem ins_stop(hI:O=insRun N K (I.drop k) rs me cl an s)(hk:k<I.length)(h:N≤s):O=⟨3,0,me,cl,s⟩:=by rw[hI,drop_ix hk,insRun,if_pos h]
theorem ins_trap(hI:O=insRun N K (I.drop k) rs me cl an s)(hk:k<I.length)(h:¬N≤s)(h2:¬(ix I k).Op=28)(h3:(stepM (ix I k) rs me).1.2=false) :
 O=⟨2,(stepM (ix I k) rs me).1.1,(stepM (ix I k) rs me).2.2,cl,s+1⟩:=by rw[hI,drop_ix hk,insRun,if_neg h,if_neg h2,if_pos h3]
theorem ins_ok(hI:O=insRun N K (I.drop k) rs me cl an s)(hk:k<I.length)(h:¬N≤s)(h2:¬(ix I k).Op=28)(h3:(stepM (ix I k) rs me).1.2=true) :
 O=insRun N K (I.drop (k+1)) (stepM (ix I k) rs me).2.1 (stepM (ix I k) rs me).2.2 cl an (s+1):=by rw[hI,drop_ix hk,insRun,if_neg h,if_neg h2,if_neg (by rw[h3];decide)]
theorem ins_callA(hI:O=insRun N K (I.drop k) rs me cl an s)(hk:k<I.length)(h:¬N≤s)(h2:(ix I k).Op=28)(hj:(ix I k).Args.length≤j)(hea:ea=((ix I k).Args.take j).map (fun r=>ix rs (Int.toNat r)))(h3:¬0<(an.length:Int)) :
  O=insRun N K (I.drop (k+1)) (List.set rs (Int.toNat (ix I k).D) 0) me (cl++[⟨(ix I k).Imm,ea⟩]) an (s+1):=by
 have:an=[]:=List.eq_nil_of_length_eq_zero (by omega)
 subst this
 rw[hI,drop_ix hk,insRun,if_neg h,if_pos h2,hea,List.take_of_length_le hj];rfl
theorem ins_callB(hI:O=insRun N K (I.drop k) rs me cl an s)(hk:k<I.length)(h:¬N≤s)(h2:(ix I k).Op=28)(hj:(ix I k).Args.length≤j)(hea:ea=((ix I k).Args.take j).map (fun r=>ix rs (Int.toNat r))) :
  O=insRun N K (I.drop (k+1)) (List.set (List.set rs (Int.toNat (ix I k).D) 0) (Int.toNat (ix I k).D) (ix an 0)) me (cl++[⟨(ix I k).Imm,ea⟩]) (an.drop 1) (s+1):=by
 rw[hI,drop_ix hk,insRun,if_neg h,if_pos h2,hea,List.take_of_length_le hj,List.set_set];rfl
end
section
variable{N:Int}{go:Int→List Int→List Int→List D.Event→List Int→Int→D.Outcome}{O:D.Outcome}{I:List D.Mach}{k:Nat}{rs me an:List Int}{cl:List D.Event}{s:Int}{e:D.End}
theorem end_stop(hI:O=insRun N (endRun N e go) (I.drop k) rs me cl an s)(hk:I.length≤k)(h:N≤s):O=⟨3,0,me,cl,s⟩:=by rw[ins_end hI hk,endRun,if_pos h]
theorem end_ret(hI:O=insRun N (endRun N e go) (I.drop k) rs me cl an s)(hk:I.length≤k)(h:¬N≤s)(h7:e.Op=7):O=⟨1,getM rs e.A,me,cl,s+1⟩:=by rw[ins_end hI hk,endRun,if_neg h,if_pos h7]
theorem end_trap(hI:O=insRun N (endRun N e go) (I.drop k) rs me cl an s)(hk:I.length≤k)(h:¬N≤s)(h7:¬e.Op=7)(h8:e.Op=8):O=⟨2,e.Imm,me,cl,s+1⟩:=by rw[ins_end hI hk,endRun,if_neg h,if_neg h7,if_pos h8]
theorem end_go(hI:O=insRun N (endRun N e go) (I.drop k) rs me cl an s)(hk:I.length≤k)(h:¬N≤s)(h7:¬e.Op=7)(h8:¬e.Op=8):O=go (ix e.To (Int.toNat (goesM e rs))) rs me cl an (s+1):=by rw[ins_end hI hk,endRun,if_neg h,if_neg h7,if_neg h8]
end
theorem run_wrong{m:D.MFunc}{i:D.Input}(h:rightM m=false):runM m i=⟨4,0,[],[],0⟩:=by unfold runM;rw[if_pos h]
theorem run_right{m:D.MFunc}{i:D.Input}(h:rightM m=true):runM m i=blockRun m.Blocks i.Steps (Int.toNat i.Steps+1) 0 (-1) (startR m i) (memM i) [] i.Answers 0:=by unfold runM;rw[if_neg (by rw[h];decide)]
end Go.Proofs.YtehhjlkmbdhckaaGreat
namespace Go.JE
variable{P:Program}{D D0 D1:List Dt}{L M N Ls L0 Rs:List Res}{e:Env}{X:Cx}{n:Fs}{w0:World}{Q:Exit→Act→World→Prop}
section
variable{ops:Array Oper}{d:Nat}{ty:TypeId}{pos:String}{af:Array Edge}{rest:List Oper}{v u z w2:Value}{x y:Operand}{T T' E:TypeId}{bytes B hi N':Nat}{α:Type}{r:Rp α}{l m:List α}{a:α}
theorem jcpy(hT:P.underlying T=some (.slice E))(hE:(P.info? E).map (fun i=>(i.zero,i.size,i.bytes))=some (some z,1,bytes))(hs:r.sz=1)(hx:ev e x=some (JE.resl 1 v 0 hi))(hy:ev e y=some w2)(hk:Tk L (gl B r E v l) M)(h2:hi≤l.length)(hm:Nd D L (dv (rLn N' r) w2 m))
  (k:LH P n w0 ops Q X D (gl B r E v (m.take (min hi m.length)++l.drop (min hi m.length))::M) ((d,.int .i64 (min hi m.length:Nat))::e) rest) (hd:Nat.blt d n.sz=true:=by rfl):LH P n w0 ops Q X D L e (⟨some d,.call { callee := .builtin .copy,args:=#[x,y],argTypes:=#[T,T'] },ty,pos,af,none⟩::rest):=fun F H hp =>
 LF.chg (OpCh.copyG hT hE hs hx hy (hp.at hk).1 h2 (hm F H hp.hin hp.hd hp.ok) hp.hin) (by
  rintro _ H' ⟨rfl,h3,h4⟩
  exact k F H' (hp.set (R':=gl B r E v (m.take (min hi m.length)++l.drop (min hi m.length))) hk h3 ⟨h4,Nat.le_trans (hp1 hp hk) h3.1⟩ (fun k h => .inr h))) hd
end
end Go.JE
namespace Go.Proofs.YtehhjlkmbdhckaaGreat
open Go.JE
abbrev U76:=@Tryz.underlying76
theorem A113:∃d,Tryz.prog.underlying 113=some d∧(match d with | .struct _ | .array _ _=>true|_=>false)=true:=⟨_,Tryz.underlying113,rfl⟩
theorem A74:∃d,Tryz.prog.underlying 74=some d∧(match d with | .struct _ | .array _ _=>true|_=>false)=true:=⟨_,Tryz.underlying74,rfl⟩
theorem A78:∃d,Tryz.prog.underlying 78=some d∧(match d with | .struct _ | .array _ _=>true|_=>false)=true:=⟨_,Tryz.underlying78,rfl⟩
theorem E34:Ent Tryz.prog 34:=⟨_,Tryz.func34,by kernel_rfl,by kernel_rfl⟩
theorem E55:Ent Tryz.prog 55:=⟨_,Tryz.func55,by kernel_rfl,by kernel_rfl⟩
theorem E56:Ent Tryz.prog 56:=⟨_,Tryz.func56,by kernel_rfl,by kernel_rfl⟩
theorem E57:Ent Tryz.prog 57:=⟨_,Tryz.func57,by kernel_rfl,by kernel_rfl⟩
theorem E58:Ent Tryz.prog 58:=⟨_,Tryz.func58,by kernel_rfl,by kernel_rfl⟩
theorem E60:Ent Tryz.prog 60:=⟨_,Tryz.func60,by kernel_rfl,by kernel_rfl⟩
theorem F113_1:Fld Tryz.prog 113 1 1:=⟨_,_,Tryz.underlying113,rfl,rfl,1,(by unfold Sz;kernel_rfl),by decide⟩
theorem F35_4:Fld Tryz.prog 35 4 4:=⟨_,_,Tryz.underlying35,rfl,rfl,1,(by unfold Sz;kernel_rfl),by decide⟩
theorem F74_0:Fld Tryz.prog 74 0 0:=⟨_,_,Tryz.underlying74,rfl,rfl,1,(by unfold Sz;kernel_rfl),by decide⟩
theorem F74_2:Fld Tryz.prog 74 2 2:=⟨_,_,Tryz.underlying74,rfl,rfl,1,(by unfold Sz;kernel_rfl),by decide⟩
theorem F74_3:Fld Tryz.prog 74 3 3:=⟨_,_,Tryz.underlying74,rfl,rfl,1,(by unfold Sz;kernel_rfl),by decide⟩
theorem F78_0:Fld Tryz.prog 78 0 0:=⟨_,_,Tryz.underlying78,rfl,rfl,1,(by unfold Sz;kernel_rfl),by decide⟩
theorem F78_1:Fld Tryz.prog 78 1 1:=⟨_,_,Tryz.underlying78,rfl,rfl,1,(by unfold Sz;kernel_rfl),by decide⟩
theorem F78_2:Fld Tryz.prog 78 2 2:=⟨_,_,Tryz.underlying78,rfl,rfl,1,(by unfold Sz;kernel_rfl),by decide⟩
theorem F78_3:Fld Tryz.prog 78 3 3:=⟨_,_,Tryz.underlying78,rfl,rfl,1,(by unfold Sz;kernel_rfl),by decide⟩
theorem F78_4:Fld Tryz.prog 78 4 4:=⟨_,_,Tryz.underlying78,rfl,rfl,1,(by unfold Sz;kernel_rfl),by decide⟩
theorem I113:(Tryz.prog.info? 113).map (fun i=>(i.zero,i.size,i.bytes))=some (some (.agg #[.int .i32 0,.slice none 0 0]),2,32):=by kernel_rfl
theorem O76:One Tryz.prog 76:=⟨_,Tryz.underlying76,rfl⟩
theorem Z113:Sz Tryz.prog 113 2:=by unfold Sz;kernel_rfl
theorem Z72:Sz Tryz.prog 72 1:=by unfold Sz;kernel_rfl
theorem Z74:Sz Tryz.prog 74 4:=by unfold Sz;kernel_rfl
theorem Z76:Sz Tryz.prog 76 1:=by unfold Sz;kernel_rfl
theorem Z78:Sz Tryz.prog 78 5:=by unfold Sz;kernel_rfl
theorem J113:(Tryz.prog.info? 113).bind (·.zero)=some (.agg #[.int .i32 0,.slice none 0 0]):=by kernel_rfl
theorem J78:(Tryz.prog.info? 78).bind (·.zero)=some (.agg #[.int .i64 0,.int .i32 0,.slice none 0 0,.slice none 0 0,.int .i64 0]):=by kernel_rfl
theorem pStop_ct(kd:Int)(x:Int){e0 v0 z0:Int}{m0 c0:Value}{g2:Nat}(om:m0.oneCell'=true)(oc:c0.oneCell'=true):Tr Tryz.prog 56 #[.int .i64 kd,.int .i32 x,.pointer (some ⟨g2,0,none⟩)] [] [bx g2 78 [.int .i64 e0,.int .i32 v0,m0,c0,.int .i64 z0]] (fun _:Unit => .agg #[.int .i64 kd,.int .i32 x,m0,c0,.int .i64 z0]) (fun _=>[]) (fun _ _=>[bx g2 78 [.int .i64 kd,.int .i32 x,m0,c0,.int .i64 z0]]):=by
 refine jenter (args:=[.int .i64 kd,.int .i32 x,.pointer (some ⟨g2,0,none⟩)]) Tryz.func56 rfl rfl rfl fun w0 X=>?_
 refine jq (jr (jalc J78 Z fun g5=>jn (jx (jq (jr (jm Z (jm Z (js (jf F78_0 Z) (jst k1 Z3 Z Z Z s0 (js (jf F78_1 Z) ?_))))))))))
 refine jst k0 Z21 Z Z Z s1 (jn (jx (jq (jr (js (jla k0 A78 Z78 Z Z Z) (jsta k1 Z78 Z Z Z ⟨Z,Z,om,oc,Z,trivial⟩ (saf Z) (jn (jx (jrt ?_)))))))))
 exact jrc Z Z k0 A78 Z78 () Z dn (fun _ _=>(kc k1 kn))
set_option maxRecDepth 8000 in
set_option maxHeartbeats 4000000 in
theorem pRun_ct{a0:Value}{m:D.MFunc}{a1a a1b a1c:Value}{i:D.Input}(hstp:i.Steps≤1000000):Ts Tryz.prog 33 #[vMFunc m a0,vInput i (a1a,a1b,a1c)] [da rMFunc (vMFunc m a0) m,da rInput (vInput i (a1a,a1b,a1c)) i] [] rOutcome vOutcome (runM m i):=by
 refine jenter (args:=[vMFunc m a0,vInput i (a1a,a1b,a1c)]) Tryz.func33 rfl rfl rfl fun w0 X=>?_
 refine jq (jr (jbox Z Z fun g2=>jbox Z Z fun g3=>jalc J78 Z fun g4=>jn (jx (jsc (jq (jq (jr (js (jla k2 A28 Z28 Z Z Z) ?_))))))))
 refine jcv E34 Z Z pRight_ct (dc d0 dn) kn (js (jnot Z) (jn (jx ?_)))
 refine jif Z (fun hc1=>?_) (fun hc1=>?_)
 refine jq (jr (js (jbu (v := .agg #[.int .i64 4,.int .i32 0,.slice none 0 0,.slice none 0 0,.int .i64 0]) Z (fun _=>by kernel_rfl)) (jsta k0 Z78 Z Z Z ⟨Z,Z,Z,Z,Z,trivial⟩ (saf Z) (jn (jx (jrt (jtr (jso ?_))))))))
 exact jrcA (val:=vOutcome) (b:=⟨4,0,[],[],0⟩) (c:=(.slice none 0 0,.slice none 0 0)) Z Z k0 A78 Z78 Z (by first|exact run_wrong (by simpa using hc1)|exact ins_stop hI (by omega) hc3|exact ins_trap hI (by omega) hc3 hc4 (by simpa using hc7)|exact end_stop hI (by omega) hc8|exact end_ret hI (by omega) hc8 hc9|exact end_trap hI (by omega) hc8 hc9 hc10) (rOutcome.M (m:=⟨4,0,[],[],0⟩) (c:=(.slice none 0 0,.slice none 0 0)) wN wN (wl 4) (wl 0) (wl 0))
 have hR:rightM m=true:=by simpa using hc1
 have hW:=right_wf hR
 have hp0:=hW.p0
 have hn0:=hW.n0
 refine jsk (jx (jq (jr (js (jla k1 A74 Z74 Z Z Z) (jcg E55 Z Z pMem_ct (dc d1 dn) kn fun v24 w1=>js (jbu (v := .agg #[.int .i64 0,.int .i32 0,v24,.slice none 0 0,.int .i64 0]) Z (fun _=>by obtain⟨_,_,_,rfl⟩:=w1;kernel_rfl)) (jalc J78 Z fun g5=>jsta k0 Z78 Z Z Z ⟨Z,Z,w1.one,Z,Z,trivial⟩ (saf Z) (jn (jx (jq ?_)))))))))
 refine jr (jmk (m:=8192) (r:=(rI .i32)) U72 I21 Z Z Z Z Z (by omega) (wI (wp (by decide))) Z fun g26=>ja Z (jn (jx (jq (jtl 6 Mixed (by kernel_rfl) (jt (jmv Z) (jt (jf F28_0 Z) (jt (jl k5 O3 Z Z) (jt (jshg (hi:=(Int.toNat m.Params)) U72 Z21 k0 Z Z (by omega) (by rw[lrep];omega)) (jt (jf F74_0 Z) ?_))))))))))
 refine jt (jl k4 O72 Z Z) (jtt (jdq (rInput.c_Args d1) fun q2 w2=>jcpy U72 I21 Z Z Z k0 (by rw[lrep];omega) (rInput.c_Args d1) (jn (jx (jq (jr (js (jf F74_2 Z) (js (jl k4 O72 Z Z) (ja Z (jn ?_))))))))))
 refine jx (jq (jr (js (jmf1 Z) (ja Z (jn (jx (jq (jr (ja Z (ja Z (jn ?_)))))))))))
 refine jx (jq (jlab (jx (jq (jb (cnl (r:=rEvent) (E:=113) ?_))))))
 refine jlp (u10 fun(f:Nat) (ab:Int) (fb:Int) (rs:List Int) (me:List Int) (cl:List D.Event) (an:List Int) (s9:Int) (vc:Value) (va:Value)=>⟨0<f∧runM m i=blockRun m.Blocks i.Steps f ab fb rs me cl an s9∧(0≤ab∧ab<m.Blocks.length)∧(∀p∈(ix m.Blocks (Int.toNat ab)).Phis,phiOk fb 8192 p)∧rs.length=8192∧me.length≤4096∧0≤s9∧cl.length≤s9∧(s9≤i.Steps∨s9=0)∧i.Steps-s9<f,[da rMFunc (vMFunc m a0) m,da rInput (vInput i (a1a,a1b,a1c)) i,dv (rL (rI .i32)) va an],[gl X.n rEvent 113 vc cl,gl X.n (rI .i32) 21 (.slice (some ⟨g26,0,none⟩) 8192 8192) rs,bx g5 78 [.int .i64 0,.int .i32 0,v24,vc,.int .i64 s9],gl X.n (rI .i32) 21 v24 me,bx g4 78 [.int .i64 0,.int .i32 0,.slice none 0 0,.slice none 0 0,.int .i64 0],bx g3 74 [a1a,a1b,a1c,.int .i64 i.Steps],bx g2 28 [.int .i64 m.Params,a0]],[(2,.pointer (some ⟨g2,0,none⟩)),(3,.pointer (some ⟨g3,0,none⟩)),(4,.pointer (some ⟨g4,0,none⟩)),(5,.pointer (some ⟨g5,0,none⟩)),(6,(.slice (some ⟨g26,0,none⟩) 8192 8192)),(7,va),(8,.func (.func 56) #[] #[.pointer (some ⟨g5,0,none⟩)]),(9,.int .i64 ab),(10,.int .i64 fb)],f⟩) (Int.toNat i.Steps+1,0,(-1),startR m i,memM i,[],i.Answers,0,.slice none 0 0,a1c) ⟨by dsimp only;omega,run_right hR,by dsimp only;omega,hW.from0,startR_len hW i,memM_len i,Int.le_refl _,by simp,by dsimp only;omega,by dsimp only;omega⟩ (dc d0 (dc d1 (dc (rInput.c_Answers d1) dn))) (kd (kd (kd (kc k0 kn)))) ⟨Z,Z,Z,Z,Z,Z,Z,Z,Z,trivial⟩ ?_
 rintro⟨f,ab,fb,rs,me,cl,an,s9,vc,va⟩;dsimp only[u10];rintro⟨hf,hrun,hat,hfr,hrl,hml,hs0,hcl,hst,hfu⟩
 refine cgo k0 fun w4=>cdq d2 fun q5 w5=>jb (jq (jr (js (jf F28_1 Z) (js (jl k6 O26 Z Z) (jm Z (jdq (rMFunc.cB d0) fun q6 w6=>js (jix (i:=(Int.toNat ab)) U26 Z37 (rMFunc.cB d0) Z Z (by omega) (by omega)) (jA3 sMBlock (jlA (dix (rMFunc.cB d0) (Int.toNat ab) (by omega)) A37 Z37 Z) fun c41a c41b c41c=>jalc J37 Z fun g11=>?_)))))))
 refine jdq (rMBlock.cP d0) fun q8 w8=>jdq (rMBlock.cI d0) fun q9 w9=>jdq (rMBlock.cT d0) fun q10 w10=>jsta k0 Z37 Z Z Z ⟨w8.one,w9.one,Z,Z,Z,w10.one,Z,trivial⟩ (saf Z) (jn (jx (jq (jr (js (jf F37_0 Z) (js (jl k0 O32 Z Z) (jm Z (jm Z ?_))))))))
 refine jc E57 Z Z (pPhis_ct fb (by omega) (by rw[hrl];exact hfr)) (dc (rMBlock.cP d0) dn) (kc k2 kn) (fun _=>p0) (fun _=>p1) fun _=>jn (jx (jq (jq (jr (js (jf F37_1 Z) (js (jl k1 O33 Z Z) (js (jln U33 (rMBlock.cI d0) Z) (jm Z (jn (jx ?_))))))))))
 refine jb ?_
 refine jlp (u8 fun(k:Nat) (rs2:List Int) (me2:List Int) (cl2:List D.Event) (an2:List Int) (s2:Int) (vc2:Value) (va2:Value)=>⟨k≤(ix m.Blocks (Int.toNat ab)).Ins.length∧runM m i=insRun i.Steps (endRun i.Steps (ix m.Blocks (Int.toNat ab)).End (fun t=>blockRun m.Blocks i.Steps (f-1) t ab)) ((ix m.Blocks (Int.toNat ab)).Ins.drop k) rs2 me2 cl2 an2 s2∧rs2.length=8192∧me2.length≤4096∧s9≤s2∧cl2.length≤s2∧(s2≤i.Steps∨s2=0),[da rMBlock (vMBlock (ix m.Blocks (Int.toNat ab)) (c41a,c41b,c41c)) (ix m.Blocks (Int.toNat ab)),da rMFunc (vMFunc m a0) m,da rInput (vInput i (a1a,a1b,a1c)) i,dv (rL (rI .i32)) va2 an2],[gl X.n (rI .i32) 21 (.slice (some ⟨g26,0,none⟩) 8192 8192) rs2,bx g11 37 [c41a,c41b,.int .i64 (((ix m.Blocks (Int.toNat ab)).End).Op),.int .i64 (((ix m.Blocks (Int.toNat ab)).End).A),.int .i64 (((ix m.Blocks (Int.toNat ab)).End).B),c41c,.int .i32 (((ix m.Blocks (Int.toNat ab)).End).Imm)],gl X.n rEvent 113 vc2 cl2,bx g5 78 [.int .i64 0,.int .i32 0,v24,vc2,.int .i64 s2],gl X.n (rI .i32) 21 v24 me2,bx g4 78 [.int .i64 0,.int .i32 0,.slice none 0 0,.slice none 0 0,.int .i64 0],bx g3 74 [a1a,a1b,a1c,.int .i64 i.Steps],bx g2 28 [.int .i64 m.Params,a0]],[(2,.pointer (some ⟨g2,0,none⟩)),(3,.pointer (some ⟨g3,0,none⟩)),(4,.pointer (some ⟨g4,0,none⟩)),(5,.pointer (some ⟨g5,0,none⟩)),(6,(.slice (some ⟨g26,0,none⟩) 8192 8192)),(7,va2),(8,.func (.func 56) #[] #[.pointer (some ⟨g5,0,none⟩)]),(9,.int .i64 ab),(10,.int .i64 fb),(11,.pointer (some ⟨g11,0,none⟩)),(48,c41b),(49,.int .i64 (↑(List.length ((ix m.Blocks (Int.toNat ab)).Ins)))),(50,.int .i64 (↑k))],(ix m.Blocks (Int.toNat ab)).Ins.length-k⟩) (0,phisM ((ix m.Blocks (Int.toNat ab)).Phis) fb rs,me,cl,an,s9,vc,va) ⟨by dsimp only;omega,by dsimp only;rw[hrun,blockRun_pos hf];rfl,by dsimp only;rw[phisM_len];exact hrl,hml,by dsimp only;omega,hcl,hst⟩ (dc d0 (dc d1 (dc d2 (dc d3 dn)))) (kd (kd (kd (kd kn)))) ⟨Z,Z,Z,Z,Z,Z,Z,Z,Z,Z,Z,Z,eqI (by omega),trivial⟩ ?_
 rintro⟨k,rs2,me2,cl2,an2,s2,vc2,va2⟩;dsimp only[u8];rintro⟨hk,hI,hrl2,hml2,hss,hcl2,hst2⟩
 refine cgo k2 fun w12=>cdq d3 fun q13 w13=>jq (jr (js (jlss Z Z) (jn (jx (jq ?_)))))
 refine jif Z (fun hc2=>?_) (fun hc2=>?_)
 refine jsk (jx (jq (jb (jq (jr (js (jix U33 Z69 (rMBlock.cI d0) Z Z Z (by omega)) (jA sMach (jlA (dix (rMBlock.cI d0) k (by omega)) A69 Z69 Z) fun c53=>jalc J69 Z fun g13=>jdq (rMach.c_Args d0) fun q15 w15=>jsta k0 Z69 Z Z Z ⟨Z,Z,Z,Z,Z,Z,Z,w15.one,trivial⟩ (saf Z) (jn ?_))))))))
 refine jx (jq (jq (jr (js (jf F78_4 Z) (js (jl k4 O3 Z Z) (js (jf F74_3 Z) (js (jl k7 O3 Z Z) (js (jgeq Z Z) (jn (jx ?_))))))))))
 refine jif Z (fun hc3=>?_) (fun hc3=>?_)
 refine jex (jtx (jbo (jtx (jtx (jbo (jtx (jbo (jtx (jbh (jx (jq ?_)))))))))))
 refine jr (jm Z (jc E56 Z Z (pStop_ct 3 0 w1.one w12.one) dn (kc k4 kn) (fun _=>p0) (fun _=>p1) fun _=>jsta k6 Z78 Z Z Z ⟨Z,Z,w1.one,w12.one,Z,trivial⟩ (saf Z) (jn (jx (jrt (jso (qfz k6 (by first|omega|(rw[(stepM_len _ _ _).2];omega)) (qfz k5 (by omega) ?_))))))))
 exact jrcA (val:=vOutcome) (b:=⟨3,0,me2,cl2,s2⟩) (c:=(v24,vc2)) Z Z k0 A78 Z78 Z (by first|exact run_wrong (by simpa using hc1)|exact ins_stop hI (by omega) hc3|exact ins_trap hI (by omega) hc3 hc4 (by simpa using hc7)|exact end_stop hI (by omega) hc8|exact end_ret hI (by omega) hc8 hc9|exact end_trap hI (by omega) hc8 hc9 hc10) (rOutcome.M (m:=⟨3,0,me2,cl2,s2⟩) (c:=(v24,vc2)) d1 d0 (wl 3) (wl 0) (wp (IntWalk.i64_in s2 (by omega))))
 have hNi:=hc3
 refine jsk (jx (jq (jr (js (jf F78_4 Z) (js (jl k4 O3 Z Z) (js (jadd Z Z (by omega)) (js (jf F78_4 Z) (jst k4 Z3 Z Z Z s4 (jn (jx (jq ?_)))))))))))
 refine jq (jr (js (jf F69_0 Z) (js (jl k1 O3 Z Z) (js (jeql Z Z) (jn (jx ?_))))))
 refine jif Z (fun hc4=>?_) (fun hc4=>?_)
 have h28:=hc4
 have hi28:=hW.ins _ (ix_mem (l:=m.Blocks) (i:=Int.toNat ab) (by omega)) _ (ix_mem (l:=(ix m.Blocks (Int.toNat ab)).Ins) (i:=k) (by omega)) hc4
 obtain⟨hD0,hD1,hA4,hAr⟩:=hi28
 refine jq (jr (js (jf F69_6 Z) (js (jl k1 O21 Z Z) (js (jbu (v := .agg #[.int .i32 ((ix ((ix m.Blocks (Int.toNat ab)).Ins) k).Imm),.slice none 0 0]) Z (fun _=>by kernel_rfl)) (jalc J113 Z fun g14=>jsta k0 Z113 Z Z Z ⟨Z,Z,trivial⟩ (saf Z) (jn (jx (jq (jq (jr ?_))))))))))
 refine js (jf F69_7 Z) (js (jl k2 O22 Z Z) (js (jln U22 (rMach.c_Args d0) Z) (jm Z (jn (jx (jb (cnl (r:=(rI .i32)) (E:=21) ?_)))))))
 refine jlp (u3 fun(j:Nat) (ea:List Int) (ve:Value)=>⟨j≤(ix (ix m.Blocks (Int.toNat ab)).Ins k).Args.length∧ea=((ix (ix m.Blocks (Int.toNat ab)).Ins k).Args.take j).map (fun r=>ix rs2 (Int.toNat r)),[da rMach (vMach (ix ((ix m.Blocks (Int.toNat ab)).Ins) k) c53) (ix ((ix m.Blocks (Int.toNat ab)).Ins) k),da rMBlock (vMBlock (ix m.Blocks (Int.toNat ab)) (c41a,c41b,c41c)) (ix m.Blocks (Int.toNat ab)),da rMFunc (vMFunc m a0) m,da rInput (vInput i (a1a,a1b,a1c)) i,dv (rL (rI .i32)) va2 an2],[gl X.n (rI .i32) 21 ve ea,bx g14 113 [.int .i32 ((ix ((ix m.Blocks (Int.toNat ab)).Ins) k).Imm),ve],bx g5 78 [.int .i64 0,.int .i32 0,v24,vc2,.int .i64 (s2+1)],bx g13 69 [.int .i64 ((ix ((ix m.Blocks (Int.toNat ab)).Ins) k).Op),.int .i64 ((ix ((ix m.Blocks (Int.toNat ab)).Ins) k).D),.int .i64 ((ix ((ix m.Blocks (Int.toNat ab)).Ins) k).E),.int .i64 ((ix ((ix m.Blocks (Int.toNat ab)).Ins) k).A),.int .i64 ((ix ((ix m.Blocks (Int.toNat ab)).Ins) k).B),.int .i64 ((ix ((ix m.Blocks (Int.toNat ab)).Ins) k).C),.int .i32 ((ix ((ix m.Blocks (Int.toNat ab)).Ins) k).Imm),c53],gl X.n (rI .i32) 21 (.slice (some ⟨g26,0,none⟩) 8192 8192) rs2,bx g11 37 [c41a,c41b,.int .i64 (((ix m.Blocks (Int.toNat ab)).End).Op),.int .i64 (((ix m.Blocks (Int.toNat ab)).End).A),.int .i64 (((ix m.Blocks (Int.toNat ab)).End).B),c41c,.int .i32 (((ix m.Blocks (Int.toNat ab)).End).Imm)],gl X.n rEvent 113 vc2 cl2,gl X.n (rI .i32) 21 v24 me2,bx g4 78 [.int .i64 0,.int .i32 0,.slice none 0 0,.slice none 0 0,.int .i64 0],bx g3 74 [a1a,a1b,a1c,.int .i64 i.Steps],bx g2 28 [.int .i64 m.Params,a0]],[(2,.pointer (some ⟨g2,0,none⟩)),(3,.pointer (some ⟨g3,0,none⟩)),(4,.pointer (some ⟨g4,0,none⟩)),(5,.pointer (some ⟨g5,0,none⟩)),(6,(.slice (some ⟨g26,0,none⟩) 8192 8192)),(7,va2),(8,.func (.func 56) #[] #[.pointer (some ⟨g5,0,none⟩)]),(9,.int .i64 ab),(10,.int .i64 fb),(11,.pointer (some ⟨g11,0,none⟩)),(13,.pointer (some ⟨g13,0,none⟩)),(14,.pointer (some ⟨g14,0,none⟩)),(48,c41b),(49,.int .i64 (↑(List.length ((ix m.Blocks (Int.toNat ab)).Ins)))),(50,.int .i64 (↑k)),(70,c53),(71,.int .i64 (↑(List.length ((ix ((ix m.Blocks (Int.toNat ab)).Ins) k).Args)))),(72,.int .i64 (↑j))],(ix (ix m.Blocks (Int.toNat ab)).Ins k).Args.length-j⟩) (0,[],.slice none 0 0) ⟨by dsimp only;omega,rfl⟩ (dc d0 (dc d1 (dc d2 (dc d3 (dc d4 dn))))) (kd (kd (kd (kd (kd (kc k0 kn)))))) ⟨Z,Z,Z,Z,Z,Z,Z,Z,Z,Z,Z,Z,Z,Z,Z,Z,Z,eqI (by omega),trivial⟩ ?_
 rintro⟨j,ea,ve⟩;dsimp only[u3];rintro⟨hj,hea⟩
 refine cgo k0 fun w18=>?_
 have hel:ea.length=j:=by rw[hea];simp;omega
 refine jq (jr (js (jlss Z Z) (jn (jx (jq ?_)))))
 refine jif Z (fun hc5=>?_) (fun hc5=>?_)
 have har:=hAr _ (ix_mem (l:=(ix (ix m.Blocks (Int.toNat ab)).Ins k).Args) (i:=j) (by omega))
 refine jsk (jx (jq (jb (jq (jr (js (jix U22 Z3 (rMach.c_Args d0) Z Z Z (by omega)) (js (jlI (dix (rMach.c_Args d0) j (by omega)) O3 Z) (ja Z (jn (jx (jany true (.a 0 (.a 1 (.a 2 (.a 3 (.a 4 (.a 5 (.o 6 (.o 7 (.a 8 (.o 9 .e)))))))))) Mixed (by kernel_rfl) (kc k1 (kc k3 kn)) fun F19=>?_)))))))))))
 refine jy Z (jf F113_1 Z) (jy Z (jl k0 O72 Z Z) (jy Z (jmv Z) (jy Z (jmv Z) (jy Z (jig (i:=(Int.toNat (ix ((ix ((ix m.Blocks (Int.toNat ab)).Ins) k).Args) j))) U72 Z21 k1 Z Z (by omega) (by omega)) (jy Z (jgI k1 (by omega) O21 Z) (jyo Z (jlit (r:=(rI .i32)) (l:=[ix rs2 (Int.toNat (ix ((ix ((ix m.Blocks (Int.toNat ab)).Ins) k).Args) j))]) U72 I21 (by decide) Z Z Z (lV Z Z (wI (wgl k4 (by omega))) ln) fun g82=>jyn d0 (kc k2 (kc k4 kn)) (jyo Z (jfz k0 (by(try simp)<;>omega) (japl U72 I21 (by decide) Z k0 Z Z d0 (by(try simp)<;>omega) fun v83 w23=>?_))))))))))
 refine jyn d1 (kc k1 (kc k3 kn)) (jy Z (jf F113_1 Z) (jyo Z (jst k1 Z72 Z Z w23.one s1 (jyz d0 (jyd (jbn (jx (jr (js (jadd Z Z (by omega)) (jm Z (jn ?_)))))))))))
 exact jag (j+1,ea++([ix rs2 (Int.toNat (ix ((ix ((ix m.Blocks (Int.toNat ab)).Ins) k).Args) j))]),v83) ⟨by dsimp only;omega,by dsimp only;rw[hea,take_ix (by omega),List.map_append];rfl⟩ (dc d4 (dc d5 (dc d6 (dc d7 (dc d8 dn))))) (kc k1 (kd (kd (kd (kd (kd kn)))))) ⟨Z,Z,Z,Z,Z,Z,Z,Z,Z,Z,Z,Z,Z,Z,Z,Z,Z,eqI (by omega),trivial⟩
 have hja:(ix (ix m.Blocks (Int.toNat ab)).Ins k).Args.length≤j:=by omega
 refine jex (jtx (jtx (jbh (jx (jq (jr (js (jf F78_3 Z) (js (jl k2 O76 Z Z) (js (jla k1 A113 Z113 Z Z Z) (jfz k0 (by omega) (jap U76 I113 (by decide) Z k5 Z (rEvent.M (m:=⟨(ix ((ix m.Blocks (Int.toNat ab)).Ins) k).Imm,ea⟩) (c:=ve) d0 (rMach.W_Imm d1)) (by omega) (fun _=>Z) fun v90 _ w26=>?_)))))))))))
 refine js (jf F78_3 Z) (jst k2 Z76 Z Z w26.one s3 (jn (jx (jq (jr (jm Z (js (jf F69_1 Z) (js (jl k3 O3 Z Z) (js (jig (i:=(Int.toNat ((ix ((ix m.Blocks (Int.toNat ab)).Ins) k).D))) U72 Z21 k4 Z Z (by omega) (by omega)) (jsg k4 Z Z21 Z Z Z (by omega) (wI (wl 0)) (jn ?_)))))))))))
 refine jx (jq (jq (jr (jm Z (js (jln U72 d5 Z) (js (jgtr Z Z) (jn (jx ?_))))))))
 refine jif Z (fun hc6=>?_) (fun hc6=>?_)
 refine jany false (.a 0 (.a 1 (.a 2 (.a 3 (.a 4 (.a 5 (.a 6 (.a 7 (.o 8 (.o 9 (.a 10 .e))))))))))) Mixed (by kernel_rfl) (kc k4 kn) fun F27=>jy Z (jmv Z) (jy Z (jf F69_1 Z) (jy Z (jl k0 O3 Z Z) (jy Z (jmv Z) (jy Z (jix (i:=0) U72 Z21 d5 Z Z Z (by omega)) (jy Z (jlI (dix d5 0 (by omega)) O21 Z) (jy Z (jmv Z) (jy Z (jslo (lo:=1) U72 Z21 d5 Z Z Z (by omega)) (jyo Z (js (jig (i:=(Int.toNat ((ix ((ix m.Blocks (Int.toNat ab)).Ins) k).D))) U72 Z21 k0 Z Z (by omega) (by first|omega|(simp<;>omega))) (jyn d0 (kc k4 kn) ?_))))))))))
 refine jyo Z (jsg k0 Z Z21 Z Z Z (by first|omega|(simp<;>omega)) (wI (wad (dix d7 0 (by omega)))) (jyn d0 (kc k4 kn) (jy Z (jas Z) (jyd (jx (jex (jtx (jbh (jx (jr (js (jadd Z Z (by omega)) ?_)))))))))))
 refine jm Z (jn ?_)
 exact jag (k+1,List.set (List.set rs2 (Int.toNat ((ix ((ix m.Blocks (Int.toNat ab)).Ins) k).D)) 0) (Int.toNat ((ix ((ix m.Blocks (Int.toNat ab)).Ins) k).D)) (ix an2 0),me2,cl2++[⟨(ix ((ix m.Blocks (Int.toNat ab)).Ins) k).Imm,ea⟩],List.drop 1 an2,s2+1,v90,(resl 1 va2 1 (List.length an2))) ⟨by dsimp only;omega,by dsimp only;first|exact ins_callA hI (by omega) hNi h28 hja hea (by omega)|exact ins_callB hI (by omega) hNi h28 hja hea|exact ins_ok hI (by omega) hNi h28 hdo,by dsimp only;first|(rw[List.length_set,List.length_set];exact hrl2)|(rw[List.length_set];exact hrl2)|(rw[(stepM_len _ _ _).1];exact hrl2),by dsimp only;first|exact hml2|(rw[(stepM_len _ _ _).2];exact hml2),by dsimp only;omega,by dsimp only;first|(rw[List.length_append];simp;omega)|omega,by dsimp only;omega⟩ (dc d4 (dc d5 (dc d6 (dc (dlo d7 1 (by omega) (by omega)) dn)))) (kc k0 (kc k4 (kc k1 (kc k0 (kc k2 (kc k2 (kc k2 (kc k2 kn)))))))) ⟨Z,Z,Z,Z,Z,Z,Z,Z,Z,Z,Z,Z,eqI (by omega),trivial⟩
 refine jsk (jx (jex (jtx (jbh (jx (jr (js (jadd Z Z (by omega)) (jm Z (jn ?_)))))))))
 exact jag (k+1,List.set rs2 (Int.toNat ((ix ((ix m.Blocks (Int.toNat ab)).Ins) k).D)) 0,me2,cl2++[⟨(ix ((ix m.Blocks (Int.toNat ab)).Ins) k).Imm,ea⟩],an2,s2+1,v90,va2) ⟨by dsimp only;omega,by dsimp only;first|exact ins_callA hI (by omega) hNi h28 hja hea (by omega)|exact ins_callB hI (by omega) hNi h28 hja hea|exact ins_ok hI (by omega) hNi h28 hdo,by dsimp only;first|(rw[List.length_set,List.length_set];exact hrl2)|(rw[List.length_set];exact hrl2)|(rw[(stepM_len _ _ _).1];exact hrl2),by dsimp only;first|exact hml2|(rw[(stepM_len _ _ _).2];exact hml2),by dsimp only;omega,by dsimp only;first|(rw[List.length_append];simp;omega)|omega,by dsimp only;omega⟩ (dc d2 (dc d3 (dc d4 (dc d5 dn)))) (kc k0 (kc k4 (kc k1 (kc k0 (kc k2 (kc k2 (kc k2 (kc k2 kn)))))))) ⟨Z,Z,Z,Z,Z,Z,Z,Z,Z,Z,Z,Z,eqI (by omega),trivial⟩
 have h28:=hc4
 refine jsk (jx (jq (jr (js (jla k1 A69 Z69 Z Z Z) (jm Z (js (jf F78_2 Z) (js (jl k0 O72 Z Z) (jc E58 Z Z (pDoM_ct (by omega) (by omega)) (dc d0 dn) (kc k2 (kc k4 kn)) (fun _=>p0) (fun _=>p2) fun _=>jm Z (js (jex' Z Z) (js (jex' Z Z) ?_))))))))))
 refine ja Z (ja Z (jn (jx (jq (jr (jm Z (js (jnot Z) (jn (jx ?_)))))))))
 refine jif Z (fun hc7=>?_) (fun hc7=>?_)
 refine jq (jr (jm Z (jm Z (jc E56 Z Z (pStop_ct 2 ((stepM (ix ((ix m.Blocks (Int.toNat ab)).Ins) k) rs2 me2).1.1) w1.one w12.one) dn (kc k2 kn) (fun _=>p0) (fun _=>p1) fun _=>jsta k6 Z78 Z Z Z ⟨Z,Z,w1.one,w12.one,Z,trivial⟩ (saf Z) (jn (jx (jrt (jbr (jtr (jtr ?_))))))))))
 refine jbr (jtr (jbr (jtr (jbr (jtr (jso (qfz k3 (by first|omega|(rw[(stepM_len _ _ _).2];omega)) (qfz k5 (by omega) ?_))))))))
 exact jrcA (val:=vOutcome) (b:=⟨2,(stepM (ix ((ix m.Blocks (Int.toNat ab)).Ins) k) rs2 me2).1.1,(stepM (ix ((ix m.Blocks (Int.toNat ab)).Ins) k) rs2 me2).2.2,cl2,s2+1⟩) (c:=(v24,vc2)) Z Z k0 A78 Z78 Z (by first|exact run_wrong (by simpa using hc1)|exact ins_stop hI (by omega) hc3|exact ins_trap hI (by omega) hc3 hc4 (by simpa using hc7)|exact end_stop hI (by omega) hc8|exact end_ret hI (by omega) hc8 hc9|exact end_trap hI (by omega) hc8 hc9 hc10) (rOutcome.M (m:=⟨2,(stepM (ix ((ix m.Blocks (Int.toNat ab)).Ins) k) rs2 me2).1.1,(stepM (ix ((ix m.Blocks (Int.toNat ab)).Ins) k) rs2 me2).2.2,cl2,s2+1⟩) (c:=(v24,vc2)) d1 d0 (wl 2) (wp (stepM_wr (ix ((ix m.Blocks (Int.toNat ab)).Ins) k) rs2 me2)) (wp (IntWalk.i64_in (s2+1) (by omega))))
 have hdo:(stepM (ix (ix m.Blocks (Int.toNat ab)).Ins k) rs2 me2).1.2=true:=by simpa using hc7
 refine jsk (jbn (jx (jr (js (jadd Z Z (by omega)) (jm Z (jn ?_))))))
 exact jag (k+1,(stepM (ix ((ix m.Blocks (Int.toNat ab)).Ins) k) rs2 me2).2.1,(stepM (ix ((ix m.Blocks (Int.toNat ab)).Ins) k) rs2 me2).2.2,cl2,an2,s2+1,vc2,va2) ⟨by dsimp only;omega,by dsimp only;first|exact ins_callA hI (by omega) hNi h28 hja hea (by omega)|exact ins_callB hI (by omega) hNi h28 hja hea|exact ins_ok hI (by omega) hNi h28 hdo,by dsimp only;first|(rw[List.length_set,List.length_set];exact hrl2)|(rw[List.length_set];exact hrl2)|(rw[(stepM_len _ _ _).1];exact hrl2),by dsimp only;first|exact hml2|(rw[(stepM_len _ _ _).2];exact hml2),by dsimp only;omega,by dsimp only;first|(rw[List.length_append];simp;omega)|omega,by dsimp only;omega⟩ (dc d1 (dc d2 (dc d3 (dc d4 dn)))) (kc k0 (kc k3 (kc k3 (kc k1 (kc k0 (kc k1 (kc k1 (kc k1 kn)))))))) ⟨Z,Z,Z,Z,Z,Z,Z,Z,Z,Z,Z,Z,eqI (by omega),trivial⟩
 refine jex (jtx (jtx (jbh (jx (jq (jq (jr (js (jf F78_4 Z) (js (jl k3 O3 Z Z) (js (jf F74_3 Z) (js (jl k6 O3 Z Z) ?_)))))))))))
 refine js (jgeq Z Z) (jn (jx ?_))
 refine jif Z (fun hc8=>?_) (fun hc8=>?_)
 refine jex (jtx (jbo (jtx (jbh (jx (jq (jr (jm Z (jc E56 Z Z (pStop_ct 3 0 w1.one w12.one) dn (kc k3 kn) (fun _=>p0) (fun _=>p1) fun _=>jsta k5 Z78 Z Z Z ⟨Z,Z,w1.one,w12.one,Z,trivial⟩ (saf Z) (jn ?_))))))))))
 refine jx (jrt (jso (qfz k5 (by first|omega|(rw[(stepM_len _ _ _).2];omega)) (qfz k4 (by omega) ?_))))
 exact jrcA (val:=vOutcome) (b:=⟨3,0,me2,cl2,s2⟩) (c:=(v24,vc2)) Z Z k0 A78 Z78 Z (by first|exact run_wrong (by simpa using hc1)|exact ins_stop hI (by omega) hc3|exact ins_trap hI (by omega) hc3 hc4 (by simpa using hc7)|exact end_stop hI (by omega) hc8|exact end_ret hI (by omega) hc8 hc9|exact end_trap hI (by omega) hc8 hc9 hc10) (rOutcome.M (m:=⟨3,0,me2,cl2,s2⟩) (c:=(v24,vc2)) d1 d0 (wl 3) (wl 0) (wp (IntWalk.i64_in s2 (by omega))))
 have hNe:=hc8
 refine jsk (jx (jq (jr (js (jf F78_4 Z) (js (jl k3 O3 Z Z) (js (jadd Z Z (by omega)) (js (jf F78_4 Z) (jst k3 Z3 Z Z Z s4 (jn (jx (jq ?_)))))))))))
 refine jq (jr (js (jf F37_2 Z) (js (jf F35_0 Z) (js (jl k2 O3 Z Z) (jn (jx (jb (jq (jr (js (jeql Z Z) (ja Z ?_)))))))))))
 refine jn (jx ?_)
 refine jif Z (fun hc9=>?_) (fun hc9=>?_)
 refine jq (jr (jm Z (jm Z (js (jf F37_2 Z) (js (jf F35_1 Z) (js (jl k2 O3 Z Z) (jc E59 Z Z (Tv.temp 1073741824 (pGet_ct (((ix m.Blocks (Int.toNat ab)).End).A)) (by omega)) dn (kc k1 kn) (fun _=>p0) (fun _=>p1) fun _=>jc E56 Z Z (pStop_ct 1 (getM rs2 (((ix m.Blocks (Int.toNat ab)).End).A)) w1.one w12.one) dn (kc k1 kn) (fun _=>p0) (fun _=>p1) fun _=>jsta k5 Z78 Z Z Z ⟨Z,Z,w1.one,w12.one,Z,trivial⟩ (saf Z) (jn (jx ?_)))))))))
 refine jrt (jbr (jtr (jbr (jtr (jbr (jtr (jso (qfz k5 (by first|omega|(rw[(stepM_len _ _ _).2];omega)) (qfz k4 (by omega) ?_)))))))))
 exact jrcA (val:=vOutcome) (b:=⟨1,getM rs2 (((ix m.Blocks (Int.toNat ab)).End).A),me2,cl2,s2+1⟩) (c:=(v24,vc2)) Z Z k0 A78 Z78 Z (by first|exact run_wrong (by simpa using hc1)|exact ins_stop hI (by omega) hc3|exact ins_trap hI (by omega) hc3 hc4 (by simpa using hc7)|exact end_stop hI (by omega) hc8|exact end_ret hI (by omega) hc8 hc9|exact end_trap hI (by omega) hc8 hc9 hc10) (rOutcome.M (m:=⟨1,getM rs2 (((ix m.Blocks (Int.toNat ab)).End).A),me2,cl2,s2+1⟩) (c:=(v24,vc2)) d1 d0 (wl 1) (wgt k2 (((ix m.Blocks (Int.toNat ab)).End).A)) (wp (IntWalk.i64_in (s2+1) (by omega))))
 have h7:=hc9
 refine jq (jr (js (jeql Z Z) (ja Z (jn (jx ?_)))))
 refine jif Z (fun hc10=>?_) (fun hc10=>?_)
 refine jq (jr (jm Z (js (jf F37_2 Z) (js (jf F35_4 Z) (js (jl k2 O21 Z Z) (jc E56 Z Z (pStop_ct 2 (((ix m.Blocks (Int.toNat ab)).End).Imm) w1.one w12.one) dn (kc k0 kn) (fun _=>p0) (fun _=>p1) fun _=>jsta k5 Z78 Z Z Z ⟨Z,Z,w1.one,w12.one,Z,trivial⟩ (saf Z) (jn (jx (jrt (jbr ?_))))))))))
 refine jtr (jbr (jtr (jbr (jtr (jso (qfz k5 (by first|omega|(rw[(stepM_len _ _ _).2];omega)) (qfz k4 (by omega) ?_)))))))
 exact jrcA (val:=vOutcome) (b:=⟨2,((ix m.Blocks (Int.toNat ab)).End).Imm,me2,cl2,s2+1⟩) (c:=(v24,vc2)) Z Z k0 A78 Z78 Z (by first|exact run_wrong (by simpa using hc1)|exact ins_stop hI (by omega) hc3|exact ins_trap hI (by omega) hc3 hc4 (by simpa using hc7)|exact end_stop hI (by omega) hc8|exact end_ret hI (by omega) hc8 hc9|exact end_trap hI (by omega) hc8 hc9 hc10) (rOutcome.M (m:=⟨2,((ix m.Blocks (Int.toNat ab)).End).Imm,me2,cl2,s2+1⟩) (c:=(v24,vc2)) d1 d0 (wl 2) (rMBlock.W_End_Imm d2) (wp (IntWalk.i64_in (s2+1) (by omega))))
 have h8:=hc10
 have htm:=ix_mem (l:=(ix m.Blocks (Int.toNat ab)).End.To) (i:=Int.toNat (goesM (ix m.Blocks (Int.toNat ab)).End rs2)) (by have:=hW.goes hat rs2 hc9 hc10;omega)
 refine jsk (jbn (jx (jany false (.a 0 (.a 1 (.a 2 (.a 3 (.a 4 (.a 5 (.a 6 (.o 7 (.a 8 (.a 9 (.a 10 (.a 11 .e)))))))))))) Mixed (by kernel_rfl) (kc k2 kn) fun F38=>jy Z (jmv Z) (jy Z (jf F37_2 Z) (jy Z (jf F35_3 Z) (jy Z (jl k0 O22 Z Z) (jy Z (jf F37_2 Z) (jy Z (jla k0 A35 Z35 Z Z Z) (jy Z (jmv Z) (jyo Z ?_))))))))))
 refine jc E60 Z Z (Tv.temp1 1073741824 pGoes_ct (by omega)) (dc (rMBlock.P_End d1) dn) (kc k1 kn) (fun _=>p0) (fun _=>p1) fun _=>jyn d0 (kc k2 kn) ?_
 have hgo:0≤goesM ((ix m.Blocks (Int.toNat ab)).End) rs2∧goesM ((ix m.Blocks (Int.toNat ab)).End) rs2<(ix m.Blocks (Int.toNat ab)).End.To.length:=hW.goes hat rs2 hc9 hc10
 refine jy Z (jix (i:=(Int.toNat (goesM ((ix m.Blocks (Int.toNat ab)).End) rs2))) U22 Z3 (rMBlock.cT d0) Z Z (by omega) (by omega)) (jy Z (jlI (dix (rMBlock.cT d0) (Int.toNat (goesM ((ix m.Blocks (Int.toNat ab)).End) rs2)) (by omega)) O3 Z) (jy Z (jas Z) (jy Z (jas Z) (jyd (jbn ?_)))))
 exact jag (f-1,ix (((ix m.Blocks (Int.toNat ab)).End).To) (Int.toNat (goesM ((ix m.Blocks (Int.toNat ab)).End) rs2)),ab,rs2,me2,cl2,an2,s2+1,vc2,va2) ⟨by dsimp only;omega,end_go hI (by omega) hNe h7 h8,by dsimp only;exact(hW.from1 hat htm).1,by dsimp only;exact(hW.from1 hat htm).2,hrl2,hml2,by dsimp only;omega,by dsimp only;omega,by dsimp only;omega,by dsimp only;omega⟩ (dc d2 (dc d3 (dc d4 dn))) (kc k3 (kd (kc k1 (kc k1 (kc k1 (kc k1 kn)))))) ⟨Z,Z,Z,Z,Z,Z,Z,Z,Z,trivial⟩
theorem E43:Ent Tryz.prog 43:=⟨_,Tryz.func43,by kernel_rfl,by kernel_rfl⟩
section
variable{e:D.End}{n:Int}
end
section
variable{m:D.MFunc}{a b c:Int}
end
section
variable{bs:List D.MBlock}{i j:Nat}{se se2:List Bool}{l l2:List Int}
end
section
variable{m:D.MFunc}{k:Nat}
end
theorem predsT_nodup(bs:List D.MBlock)(k:Nat)(b:Int):(predsT bs k b).Nodup:=by
 unfold predsT
 exact List.Pairwise.map _ (fun a b hab h=>hab (Int.ofNat_inj.1 h)) (List.Pairwise.filter _ List.nodup_range)
theorem WFm.nodup{m:D.MFunc}(hw:WFm m){k:Nat}(hk:k<m.Blocks.length):∀p∈(ix m.Blocks k).Phis,(p.In.map (·.From)).Nodup:=by
 intro p hp
 obtain⟨_,h3,_⟩:=hw.phi k hk p hp
 rw[h3];exact predsT_nodup _ _ _
section
variable{N:Int}{K:List Int→List Int→List D.Event→List Int→Int→D.Outcome}{O:D.Outcome}{I:List D.Mach}{k j na:Nat}{rs me A ea:List Int}{cl:List D.Event}{s:Int}
end
def sameO(a b:D.Outcome):Bool:=decide (a.End=b.End∧a.Val=b.Val∧a.Mem=b.Mem∧a.Calls=b.Calls)
section
variable{a b:D.Outcome}
end
end Go.Proofs.YtehhjlkmbdhckaaGreat
namespace Go.JE
variable{P:Program}{D D0 D1:List Dt}{L M N Ls L0 Rs:List Res}{e:Env}{X:Cx}{n:Fs}{w0:World}{Q:Exit→Act→World→Prop}
def putf(off:Nat)(us:List Value)(f:Nat→Value):Nat→Value:=fun j=>if off≤j∧j<off+us.length then us.getD (j-off) undef else f j
section
variable{α:Type} [Inhabited α]{r:Rp α}{E T:TypeId}{F:PH}{H:Heap}{B i off m o g:Nat}{v u:Value}{us:List Value}{l:List α}{a:α}{x y:Operand}
theorem ix_lt{l:List α}{i:Nat}(h:i<l.length):ix l i=l[i]:=by simp[ix,List.getD,h]
omit [Inhabited α] in
theorem setAt_getD{cs l:List Value}{o i:Nat}(ho:o+l.length≤cs.length):(setAt cs o l).getD i undef=if o≤i∧i<o+l.length then l.getD (i-o) undef else cs.getD i undef:=setAt_get l cs o i ho
theorem Gl.putl(h:Gl r E F H B v l)(hi:i<l.length)(hg:v.ownBlock=some g)(ho:off+us.length≤r.sz)(hok:∀f,r.ok F (ix l i) f→r.ok F a (putf off us f)):Gl r E F (setl H g (i*r.sz+off) us) B v (l.set i a):=by
 obtain⟨xs,h1,h2,h3⟩:=h
 have hb:(i+1)*r.sz≤l.length*r.sz:=Nat.mul_le_mul_right _ hi
 rw[Nat.add_mul] at hb
 have hlen:i*r.sz+off+us.length≤xs.length:=by rw[h1.1];omega
 refine⟨setAt xs (i*r.sz+off) us,by rw[List.length_set];exact Gr.setl us _ h1 ⟨g,hg⟩ g hg,h2,fun j hj=>?_⟩
 rw[List.length_set] at hj
 by_cases e1:j=i
 ·subst e1
  rw[List.getElem_set_self]
  refine r.ext (fun q hq=>?_) (hok _ (by rw[ix_lt hi];exact h3 j hi))
  rw[setAt_getD hlen]
  unfold putf
  by_cases h5:off≤q∧q<off+us.length
  ·rw[if_pos h5,if_pos (by omega),show j*r.sz+q-(j*r.sz+off)=q-off by omega]
  ·rw[if_neg h5,if_neg (by omega)]
 ·rw[List.getElem_set_ne (Ne.symm e1)]
  refine r.ext (fun q hq=>?_) (h3 j hj)
  rw[setAt_getD hlen,if_neg]
  rintro⟨h5,h6⟩
  rcases Nat.lt_or_gt_of_ne e1 with h7|h7
  ·have:(j+1)*r.sz≤i*r.sz:=Nat.mul_le_mul_right _ h7
   rw[Nat.add_mul] at this;omega
  ·have:(i+1)*r.sz≤j*r.sz:=Nat.mul_le_mul_right _ h7
   rw[Nat.add_mul] at this;omega
omit [Inhabited α] in
theorem Gl.rw(h:Gl r E F H B v l)(hi:i<l.length)(hs:0<r.sz):∃g c n,v = .slice (some ⟨g,0,none⟩) l.length c∧(∃f,Rw H g E n f)∧l.length*r.sz≤n:=by
 obtain⟨xs,g1,g2,g3⟩:=h
 rcases g1.2 with⟨h9,h8⟩|⟨g,cap,cur,h9,hb,hg,hc1,hc2,hc3,hc4⟩
 ·omega
 ·exact⟨g,cap,cur.size,h9,⟨fun j=>cur.getD j undef,cur,hg,rfl,fun j hj=>by simp[Array.getD,hj]⟩,by rw[hc3];exact Nat.mul_le_mul_right _ hc1⟩
theorem OpCh.storeP(h:Gl r E F H B v l)(hi:i<l.length)(hT:Sz P T 1)(hx:ev e x=some (.pointer (some ⟨vblk v,o,none⟩)))(hoo:o=voff v+i*r.sz+off)(hy:ev e y=some u)(h1:u.oneCell'=true)(ho:off<r.sz)(hok:∀f,r.ok F (ix l i) f→r.ok F a (putf off [u] f)) :
  OpCh P e (.store T x y) H (fun _ H'=>∃g,v.ownBlock=some g∧Tw g H H'∧Gl r E F H' B v (l.set i a)):=by
 obtain⟨g,c,n,rfl,⟨f,hr⟩,hn⟩:=h.rw hi (by omega)
 have hb:(i+1)*r.sz≤l.length*r.sz:=Nat.mul_le_mul_right _ hi
 rw[Nat.add_mul] at hb
 intro ρ oo w hoo' hev hw
 have hx':ev e x=some (.pointer (some ⟨g,i*r.sz+off,none⟩)):=by rw[hx,hoo];simp[vblk,voff]
 obtain⟨v',w',k1,k2,k3,k4,k5⟩:=OpCh.store (P:=P) hT hx' hy h1 hr (by omega) ρ oo w hoo' hev hw
 refine⟨v',w',k1,k2,k3,k4,g,rfl,by rw[k5];exact⟨size_setc,fun k hk=>setc_other hk⟩,?_⟩
 rw[k5]
 exact h.putl (us:=[u]) hi rfl (by simp only[List.length_cons,List.length_nil];omega) hok
theorem OpCh.storePA(h:Gl r E F H B v l)(hi:i<l.length)(hT:Sz P T m)(hx:ev e x=some (.pointer (some ⟨vblk v,o,none⟩)))(hoo:o=voff v+i*r.sz+off)(hy:ev e y=some (.agg us.toArray))(hl:us.length=m)(h1:∀u∈us,u.oneCell'=true)(hs:0<r.sz)(ho:off+us.length≤r.sz)(hok:∀f,r.ok F (ix l i) f→r.ok F a (putf off us f)) :
  OpCh P e (.store T x y) H (fun _ H'=>∃g,v.ownBlock=some g∧Tw g H H'∧Gl r E F H' B v (l.set i a)):=by
 obtain⟨g,c,n,rfl,⟨f,hr⟩,hn⟩:=h.rw hi hs
 have hb:(i+1)*r.sz≤l.length*r.sz:=Nat.mul_le_mul_right _ hi
 rw[Nat.add_mul] at hb
 intro ρ oo w hoo' hev hw
 have hx':ev e x=some (.pointer (some ⟨g,i*r.sz+off,none⟩)):=by rw[hx,hoo];simp[vblk,voff]
 obtain⟨v',w',k1,k2,k3,k4,k5⟩:=OpCh.storeAgg (P:=P) hT hx' hy hl h1 hr (by omega) ρ oo w hoo' hev hw
 refine⟨v',w',k1,k2,k3,k4,g,rfl,by rw[k5];exact⟨size_setl _ _ _ _,fun k hk=>setl_other hk _ _ _⟩,?_⟩
 rw[k5]
 exact h.putl hi rfl ho hok
theorem Gl.cellP(h:Gl r E F H B v l)(hi:i<l.length)(ho:off<r.sz):∃f,r.ok F (ix l i) f∧hc H (vblk v) (voff v+i*r.sz+off)=some (f off):=by
 obtain⟨xs,g1,g2,g3⟩:=h
 have hb:(i+1)*r.sz≤l.length*r.sz:=Nat.mul_le_mul_right _ hi
 rw[Nat.add_mul] at hb
 refine⟨fun j=>xs.getD (i*r.sz+j) undef,by rw[ix_lt hi];exact g3 i hi,?_⟩
 rcases g1.2 with⟨h9,h8⟩|⟨g,cap,cur,rfl,hb',hg,hc1,hc2,hc3,hc4⟩
 ·omega
 ·have h5:i*r.sz+off<cur.size:=by
   rw[hc3]
   have:l.length*r.sz≤cap*r.sz:=Nat.mul_le_mul_right _ hc1
   omega
  have h6:i*r.sz+off<l.length*r.sz:=by omega
  simp only[vblk,voff,Nat.zero_add,hc,hg]
  rw[←hc4]
  simp[List.getD,h5,h6,List.getElem?_take]
section
variable{ops:Array Oper}{d:Nat}{ty:TypeId}{pos:String}{af:Array Edge}{rest:List Oper}
def PO(D:List Dt)(L:List Res)(r:Rp α)(a:α)(off:Nat)(us:List Value)(b:α):Prop:=∀F H,InH F H→AllD F D→Ok F H L→∀f,r.ok F a f→r.ok F b (putf off us f)
theorem jsp(hk:Tk L (gl B r E v l) M)(hi:i<l.length)(hT:Sz P T 1)(hx:ev e x=some (.pointer (some ⟨vblk v,o,none⟩)))(hoo:o=voff v+i*r.sz+off)(hy:ev e y=some u)(h1:u.oneCell'=true)(hok:PO D L r (ix l i) off [u] a)
  (k:LH P n w0 ops Q X D (gl B r E v (l.set i a)::M) e rest) (ho:off<r.sz:=by exact Nat.le_of_ble_eq_true rfl):LH P n w0 ops Q X D L e (⟨none,.store T x y,ty,pos,af,none⟩::rest):=fun F H hp =>
 LF.chg0 (OpCh.storeP (hp.at hk).1 hi hT hx hoo hy h1 ho (hok F H hp.hin hp.hd hp.ok)) (by
  rintro _ H' ⟨g,hg,t,hb⟩
  exact k F H' (hp.set (R':=gl B r E v (l.set i a)) hk ⟨Nat.le_of_eq t.1.symm,fun k _ h2=>t.2 k (fun e1=>h2 (e1▸hg))⟩ ⟨hb,by rw[t.1];exact hp1 hp hk⟩ (fun k h => .inr h)))
end
theorem OpCh.makeN{z:Value}{bytes n:Nat}{I J:Int}(hT:P.underlying T=some (.slice E))(hE:(P.info? E).map (fun i=>(i.zero,i.size,i.bytes))=some (some z,r.sz,bytes))(hz:z.cells.size=r.sz)(hs:0<r.sz)
  (hx:ev e x=some (.int .i64 I)) (hy:ev e y=some (.int .i64 J)) (hI:I=n) (hJ:J=n) (h1:bytes*n≤281474976710656) (h2:n≤140737488355328) (hok:r.ok F a (fun j=>z.cells.getD j undef)) :
  OpCh P e (.makeSlice T x y) H (fun u H'=>∃g,u = .slice (some ⟨g,0,none⟩) n n∧g=H.size∧H'.size=H.size+1∧Kp H.size H H'∧(InH F H→Gl r E F H' H.size (.slice (some ⟨g,0,none⟩) n n) (List.replicate n a))):=by
 subst hI;subst hJ
 intro ρ o w ho hev hw
 obtain⟨i,hi,hzz⟩:=Option.map_eq_some_iff.1 hE
 simp only[Prod.mk.injEq] at hzz
 obtain⟨hz0,hs',hb⟩:=hzz
 have hb':(i.bytes:Int)*(n:Int)≤281474976710656:=by
  have h9:((i.bytes*n:Nat):Int)≤281474976710656:=by rw[hb];omega
  rwa[Int.natCast_mul] at h9
 have hr:=run_make (P:=P) w T E i z hT hi hz0 .i64 .i64 n n (by omega) (Int.le_refl _) hb' (by omega)
 refine⟨.slice (some ⟨w.heap.size,0,none⟩) n n,w.alloc (.cells (madeCells z.cells (n*i.size)) E),.inl ?_,rfl,rfl,rfl,H.size,?_⟩
 ·simp only[Int.toNat_natCast] at hr
  simp[execOp,ho,hev _ _ hx,hev _ _ hy,hr]
 ·subst hw
  refine⟨rfl,rfl,by show(w.heap.push _).size=_;simp,⟨by show _≤(w.heap.push _).size;simp,fun k hk=>push_old hk⟩,fun hin=>?_⟩
  refine Gl.ofRow (cs:=(madeCells z.cells (n*r.sz)).toList) ?_ (hin.nope (Nat.le_refl _)) (Nat.le_refl _) (by simp[madeCells]) (by simp) (by unfold maxLen;omega) (fun j hj=>?_)
  ·show(w.heap.push _)[w.heap.size]? = _
   rw[push_new,hs']
  ·simp only[List.length_replicate] at hj
   simp only[List.getElem_replicate]
   refine r.ext (fun q hq=>?_) hok
   have h3:j*r.sz+q<n*r.sz:=by
    have:(j+1)*r.sz≤n*r.sz:=Nat.mul_le_mul_right _ hj
    rw[Nat.add_mul] at this;omega
   have h4:(j*r.sz+q)%r.sz=q:=by rw[Nat.add_comm,Nat.add_mul_mod_self_right,Nat.mod_eq_of_lt hq]
   simp[List.getD,madeCells,hz,h3,h4,hq]
end
end Go.JE
namespace Go.Proofs.YtehhjlkmbdhckaaGreat
open Go.JE
structure BV where
 P:Value
 I:Value
 T:D.Term
instance:Inhabited BV:=⟨⟨.slice none 0 0,.slice none 0 0,default⟩⟩
def rBV:Rp BV:=rM (rP rV (rP rV rTerm)) (fun m=>(m.P,m.I,m.T))
abbrev bkL(B:Nat)(v:Value)(qs:List BV)(bs:List D.Block):List Res:=[gl B rBV 160 v qs,rw' B rPhi 62 (qs.map BV.P) (bs.map D.Block.Phis),rw' B rIns 163 (qs.map BV.I) (bs.map D.Block.Ins)]
abbrev bkF(qs:List BV)(bs:List D.Block):Prop:=qs.length=bs.length∧qs.map BV.T=bs.map D.Block.Term
def bk(B:Nat)(v:Value)(qs:List BV)(bs:List D.Block):Res where
 sat F H:=bkF qs bs∧Ok F H (bkL B v qs bs)
 own:=Own (bkL B v qs bs)
 lt:=fun h=>Ok.lt h.2
 no:=fun h=>Ok.no h.2
 st:=fun hl hs h1 h2 h=>⟨h.1,Ok.st hl hs h1 h2 h.2⟩
section
variable{P:Program}{D0 Γ:List Dt}{L M N L0:List Res}{e:Env}{X:Cx}{n:Fs}{w0:World}{Q:Exit→Act→World→Prop}{F G:PH}{H:Heap}{B j i o:Nat}{v u v':Value}{qs:List BV}{bs:List D.Block}{q':BV}{b':D.Block}
theorem hp_bko(h:Hp X Γ (bk B v qs bs::M) F H):bkF qs bs∧Hp X Γ (bkL B v qs bs++M) F H :=
 ⟨h.ok.1.1,⟨h.hx,h.hin,h.hw,h.hd,Ok.app h.ok.1.2 h.ok.2.2 h.ok.2.1,fun k hk=>h.ge k ((Own.app.1 hk).imp id id)⟩⟩
theorem hp_bkc(hf:bkF qs bs)(h:Hp X Γ (bkL B v qs bs++M) F H):Hp X Γ (bk B v qs bs::M) F H:=by
 obtain⟨a,b,c⟩:=Ok.un.2 h.ok
 exact⟨h.hx,h.hin,h.hw,h.hd,⟨⟨hf,a⟩,b,c⟩,fun k hk=>h.ge k (Own.app.2 (hk.imp id id))⟩
theorem ix_map{α β:Type}[Inhabited α][Inhabited β](f:α→β){l:List α}{i:Nat}(h:i<l.length)(z:β):(l.map f).getD i z=f (ix l i):=by simp[ix,List.getD,h]
theorem map_same{α β:Type}[Inhabited α](f:α→β){l:List α}{i:Nat}{a:α}(h:i<l.length)(e:f a=f (ix l i)):(l.set i a).map f=l.map f:=by
 rw[List.map_set,e]
 apply List.ext_getElem (by simp)
 intro k h1 h2
 by_cases h3:i=k
 ·subst h3;simp[ix_eq h]
 ·rw[List.getElem_set_ne h3]
theorem jbh0{T:TypeId}{x:Operand}(hk:Tk L (bk B v qs bs) M)(h1:j<bs.length)(hT:One P T)(hx:ev e x=some (.pointer (some ⟨vblk v,o,none⟩)))(ho:o=voff v+j*6+0):OH P Γ L e (.load T x) (ix qs j).P:=fun F H _ _ h=>by
 have h2:=(hk.ok h).1
 obtain⟨f,h3,h4⟩:=h2.2.1.1.cellP (off:=0) (i:=j) (by rw[h2.1.1];exact h1) (by decide)
 have h5:f 0=(ix qs j).P:=h3.1.1
 rw[h5] at h4
 exact OpOk.load hT hx rfl (by rw[ho];exact h4)
theorem jbh1{T:TypeId}{x:Operand}(hk:Tk L (bk B v qs bs) M)(h1:j<bs.length)(hT:One P T)(hx:ev e x=some (.pointer (some ⟨vblk v,o,none⟩)))(ho:o=voff v+j*6+1):OH P Γ L e (.load T x) (ix qs j).I:=fun F H _ _ h=>by
 have h2:=(hk.ok h).1
 obtain⟨f,h3,h4⟩:=h2.2.1.1.cellP (off:=1) (i:=j) (by rw[h2.1.1];exact h1) (by decide)
 have h5:f 1=(ix qs j).I:=h3.2.1.1
 rw[h5] at h4
 exact OpOk.load hT hx rfl (by rw[ho];exact h4)
def hole0(j B:Nat)(v:Value)(qs:List BV)(bs:List D.Block):Res where
 sat F H:=bkF qs bs∧Ok F H [gl B rBV 160 v qs,hole j B rPhi 62 (qs.map BV.P) (bs.map D.Block.Phis),rw' B rIns 163 (qs.map BV.I) (bs.map D.Block.Ins)]
 own:=Own [gl B rBV 160 v qs,hole j B rPhi 62 (qs.map BV.P) (bs.map D.Block.Phis),rw' B rIns 163 (qs.map BV.I) (bs.map D.Block.Ins)]
 lt:=fun h=>Ok.lt h.2
 no:=fun h=>Ok.no h.2
 st:=fun hl hs h1 h2 h=>⟨h.1,Ok.st hl hs h1 h2 h.2⟩
def hole1(j B:Nat)(v:Value)(qs:List BV)(bs:List D.Block):Res where
 sat F H:=bkF qs bs∧Ok F H [gl B rBV 160 v qs,rw' B rPhi 62 (qs.map BV.P) (bs.map D.Block.Phis),hole j B rIns 163 (qs.map BV.I) (bs.map D.Block.Ins)]
 own:=Own [gl B rBV 160 v qs,rw' B rPhi 62 (qs.map BV.P) (bs.map D.Block.Phis),hole j B rIns 163 (qs.map BV.I) (bs.map D.Block.Ins)]
 lt:=fun h=>Ok.lt h.2
 no:=fun h=>Ok.no h.2
 st:=fun hl hs h1 h2 h=>⟨h.1,Ok.st hl hs h1 h2 h.2⟩
theorem hp_re{L2:List Res}(h:Hp X Γ L F H)(ho:Ok F H L→Ok F H L2)(hw:∀k,Own L2 k→Own L k):Hp X Γ L2 F H:=⟨h.hx,h.hin,h.hw,h.hd,ho h.ok,fun k hk=>h.ge k (hw k hk)⟩
theorem hp_tks{Ls:List Res}(h:Hp X Γ L F H)(hk:Tks L Ls M):Hp X Γ (Ls++M) F H:=hp_re h (fun o=>by obtain⟨a,b,c⟩:=hk.ok o;exact Ok.app a b c) (fun k hk'=>hk.own (Own.app.1 hk'))
theorem hp_box{R:Res}{Ls:List Res}(h:Hp X Γ (R::(Ls++M)) F H):Hp X Γ (R::it Ls::M) F H:=by
 obtain⟨a,b,c⟩:=h.ok
 exact⟨h.hx,h.hin,h.hw,h.hd,⟨a,fun k hk ho=>b k hk (Own.app.2 ho),Ok.un.2 c⟩,fun k hk=>h.ge k (hk.imp id Own.app.2)⟩
theorem hp_unbox{R:Res}{Ls:List Res}(h:Hp X Γ (R::it Ls::M) F H):Hp X Γ (R::(Ls++M)) F H:=by
 obtain⟨a,b,c⟩:=h.ok
 exact⟨h.hx,h.hin,h.hw,h.hd,⟨a,fun k hk ho=>b k hk (Own.app.1 ho),Ok.un.1 c⟩,fun k hk=>h.ge k (hk.imp id Own.app.1)⟩
variable{ops:Array Oper}{rest:List Oper}{ty:TypeId}{pos:String}{af:Array Edge}
theorem jbf0(j:Nat)(hk:Tk L (bk B v qs bs) M)(h1:j<bs.length)(k:LH P n w0 ops Q X Γ (gl B rPhi 62 (ix qs j).P (ix bs j).Phis::hole0 j B v qs bs::M) e rest):LH P n w0 ops Q X Γ L e rest:=fun F H hp=>by
 obtain⟨hf,h2⟩:=hp_bko (hp.front hk)
 have hl:j<qs.length:=by rw[hf.1];exact h1
 have h3:=h2.row (k1:Tk _ (rw' B rPhi 62 (qs.map BV.P) (bs.map D.Block.Phis)) _) (i:=j) (by simpa using hl) (by simpa using h1)
 rw[ix_map BV.P hl,ix_map D.Block.Phis h1] at h3
 have h4:=hp_tks h3 (kc k0 (kc k1 (kd kn)))
 obtain⟨a,b,x,y,z⟩:=(hp_box (Ls:=[_,_,_]) h4).ok
 exact k F H ⟨h4.hx,h4.hin,h4.hw,h4.hd,⟨a,b,⟨hf,x⟩,y,z⟩,(hp_box (Ls:=[_,_,_]) h4).ge⟩
theorem jbf1(j:Nat)(hk:Tk L (bk B v qs bs) M)(h1:j<bs.length)(k:LH P n w0 ops Q X Γ (gl B rIns 163 (ix qs j).I (ix bs j).Ins::hole1 j B v qs bs::M) e rest):LH P n w0 ops Q X Γ L e rest:=fun F H hp=>by
 obtain⟨hf,h2⟩:=hp_bko (hp.front hk)
 have hl:j<qs.length:=by rw[hf.1];exact h1
 have h3:=h2.row (k2:Tk _ (rw' B rIns 163 (qs.map BV.I) (bs.map D.Block.Ins)) _) (i:=j) (by simpa using hl) (by simpa using h1)
 rw[ix_map BV.I hl,ix_map D.Block.Ins h1] at h3
 have h4:=hp_tks h3 (kc k0 (kc k1 (kc k1 (kc k0 kn))))
 obtain⟨a,b,x,y,z⟩:=(hp_box (Ls:=[_,_,_]) h4).ok
 exact k F H ⟨h4.hx,h4.hin,h4.hw,h4.hd,⟨a,b,⟨hf,x⟩,y,z⟩,(hp_box (Ls:=[_,_,_]) h4).ge⟩
theorem putP{m:BV}{f:Nat→Value}(h1:u.oneCell'=true)(h:rBV.ok F m f):rBV.ok F { m with P:=u } (putf 0 [u] f) :=
 ⟨⟨rfl,h1⟩,⟨h.2.1.1,h.2.1.2⟩,rTerm.ext (fun i _=>by show _=putf 0 [u] f (i+1+1);unfold putf;rw[if_neg (by simp)];rfl) h.2.2⟩
theorem putI{m:BV}{f:Nat→Value}(h1:u.oneCell'=true)(h:rBV.ok F m f):rBV.ok F { m with I:=u } (putf 1 [u] f) :=
 ⟨⟨h.1.1,h.1.2⟩,⟨rfl,h1⟩,rTerm.ext (fun i _=>by show _=putf 1 [u] f (i+1+1);unfold putf;rw[if_neg (by simp)];rfl) h.2.2⟩
theorem putT{m:BV}{f:Nat→Value}{us:List Value}{t:D.Term}(hl:us.length=4)(ht:rTerm.ok F t (fun i=>us.getD i undef))(h:rBV.ok F m f):rBV.ok F { m with T:=t } (putf 2 us f) :=
 ⟨⟨by show putf 2 us f 0=_;unfold putf;rw[if_neg (by simp)];exact h.1.1,h.1.2⟩,⟨by show putf 2 us f 1=_;unfold putf;rw[if_neg (by simp)];exact h.2.1.1,h.2.1.2⟩,
  rTerm.ext (fun i hi=>by
   have hi:i<4:=hi
   show _=putf 2 us f (i+1+1);unfold putf;rw[if_pos (by omega)];rfl) ht⟩
theorem putTo{m:BV}{f:Nat→Value}{l:List Int}(hu:(rL (rI .i64)).rv F u l)(h:rBV.ok F m f):rBV.ok F { m with T:={ m.T with To:=l } } (putf 4 [u] f) :=
 ⟨⟨h.1.1,h.1.2⟩,⟨h.2.1.1,h.2.1.2⟩,⟨h.2.2.1.1,h.2.2.1.2⟩,(rL (rI .i64)).ext (fun i hi=>by rw[show i=0 from Nat.lt_one_iff.1 hi];rfl) h.2.2.2.1,(rL (rI .i64)).ext (fun i hi=>by rw[show i=0 from Nat.lt_one_iff.1 hi];rfl) hu,⟨h.2.2.2.2.2.1,h.2.2.2.2.2.2⟩⟩
theorem bkF_set(hf:bkF qs bs)(h1:j<bs.length)(e:q'.T=b'.Term):bkF (qs.set j q') (bs.set j b'):=⟨by simp[hf.1],by rw[List.map_set,List.map_set,hf.2,e]⟩
theorem jbs1{T:TypeId}{x y:Operand}{l':List D.Ins}(hk:Tk L (gl B rIns 163 v' l') M)(hk2:Tk M (hole1 j B v qs bs) N)(h1:j<bs.length)(hT:Sz P T 1)(hx:ev e x=some (.pointer (some ⟨vblk v,o,none⟩)))(ho:o=voff v+j*6+1)(hy:ev e y=some v')(hv:v'.oneCell'=true)
  (k:LH P n w0 ops Q X Γ (bk B v (qs.set j { (ix qs j) with I:=v' }) (bs.set j { (ix bs j) with Ins:=l' })::N) e rest):LH P n w0 ops Q X Γ L e (⟨none,.store T x y,ty,pos,af,none⟩::rest):=fun F H hp=>by
 have h3:=hp_tks hp (kc hk (kc hk2 kn))
 have hf:bkF qs bs:=h3.ok.2.2.1.1
 have h4:Hp X Γ (gl B rIns 163 v' l'::gl B rBV 160 v qs::rw' B rPhi 62 (qs.map BV.P) (bs.map D.Block.Phis)::hole j B rIns 163 (qs.map BV.I) (bs.map D.Block.Ins)::N) F H :=
  hp_unbox (Ls:=[_,_,_]) ⟨h3.hx,h3.hin,h3.hw,h3.hd,⟨h3.ok.1,h3.ok.2.1,h3.ok.2.2.1.2,h3.ok.2.2.2⟩,h3.ge⟩
 have hl:j<qs.length:=by rw[hf.1];exact h1
 refine LF.chg0 (OpCh.storeP (h4.at k1).1 hl hT hx ho hy hv (by decide) (fun f=>putI hv)) ?_
 rintro _ H' ⟨g,hg,t,hb⟩
 have h5:=h4.set (R':=gl B rBV 160 v (qs.set j { (ix qs j) with I:=v' })) k1 ⟨Nat.le_of_eq t.1.symm,fun k _ h2=>t.2 k (fun e1=>h2 (e1▸hg))⟩ ⟨hb,by rw[t.1];exact hp1 h4 k1⟩ (fun k h => .inr h)
 have h6:=(hp_tks h5 (kc k1 (kc k2 (kd kn)))).unrow (by simpa using hl) (by simpa using h1)
 rw[show(List.map BV.I qs).set j v'=List.map BV.I (qs.set j { (ix qs j) with I:=v' }) by rw[List.map_set],show(List.map D.Block.Ins bs).set j l'=List.map D.Block.Ins (bs.set j { (ix bs j) with Ins:=l' }) by rw[List.map_set],
  ←map_same BV.P (a:={ (ix qs j) with I:=v' }) hl rfl,←map_same D.Block.Phis (a:={ (ix bs j) with Ins:=l' }) h1 rfl] at h6
 exact k F H' (hp_bkc (bkF_set hf h1 (by
  have:=congrArg (fun l=>l.getD j default) hf.2
  rwa[ix_map BV.T hl,ix_map D.Block.Term h1] at this)) (hp_tks h6 (kc k1 (kc k1 (kc k0 kn)))))
theorem jbs0{T:TypeId}{x y:Operand}{l':List D.Phi}(hk:Tk L (gl B rPhi 62 v' l') M)(hk2:Tk M (hole0 j B v qs bs) N)(h1:j<bs.length)(hT:Sz P T 1)(hx:ev e x=some (.pointer (some ⟨vblk v,o,none⟩)))(ho:o=voff v+j*6+0)(hy:ev e y=some v')(hv:v'.oneCell'=true)
  (k:LH P n w0 ops Q X Γ (bk B v (qs.set j { (ix qs j) with P:=v' }) (bs.set j { (ix bs j) with Phis:=l' })::N) e rest):LH P n w0 ops Q X Γ L e (⟨none,.store T x y,ty,pos,af,none⟩::rest):=fun F H hp=>by
 have h3:=hp_tks hp (kc hk (kc hk2 kn))
 have hf:bkF qs bs:=h3.ok.2.2.1.1
 have h4:Hp X Γ (gl B rPhi 62 v' l'::gl B rBV 160 v qs::hole j B rPhi 62 (qs.map BV.P) (bs.map D.Block.Phis)::rw' B rIns 163 (qs.map BV.I) (bs.map D.Block.Ins)::N) F H :=
  hp_unbox (Ls:=[_,_,_]) ⟨h3.hx,h3.hin,h3.hw,h3.hd,⟨h3.ok.1,h3.ok.2.1,h3.ok.2.2.1.2,h3.ok.2.2.2⟩,h3.ge⟩
 have hl:j<qs.length:=by rw[hf.1];exact h1
 refine LF.chg0 (OpCh.storeP (h4.at k1).1 hl hT hx ho hy hv (by decide) (fun f=>putP hv)) ?_
 rintro _ H' ⟨g,hg,t,hb⟩
 have h5:=h4.set (R':=gl B rBV 160 v (qs.set j { (ix qs j) with P:=v' })) k1 ⟨Nat.le_of_eq t.1.symm,fun k _ h2=>t.2 k (fun e1=>h2 (e1▸hg))⟩ ⟨hb,by rw[t.1];exact hp1 h4 k1⟩ (fun k h => .inr h)
 have h6:=(hp_tks h5 (kc k1 (kc k1 (kd kn)))).unrow (by simpa using hl) (by simpa using h1)
 rw[show(List.map BV.P qs).set j v'=List.map BV.P (qs.set j { (ix qs j) with P:=v' }) by rw[List.map_set],show(List.map D.Block.Phis bs).set j l'=List.map D.Block.Phis (bs.set j { (ix bs j) with Phis:=l' }) by rw[List.map_set],
  ←map_same BV.I (a:={ (ix qs j) with P:=v' }) hl rfl,←map_same D.Block.Ins (a:={ (ix bs j) with Phis:=l' }) h1 rfl] at h6
 exact k F H' (hp_bkc (bkF_set hf h1 (by
  have:=congrArg (fun l=>l.getD j default) hf.2
  rwa[ix_map BV.T hl,ix_map D.Block.Term h1] at this)) (hp_tks h6 (kc k1 (kd kn))))
theorem jbw0{c:LH P n w0 ops Q X Γ (bk B v qs (bs.set j b')::N) e rest}(hk:Tk L (gl B rPhi 62 (ix qs j).P b'.Phis) M)(hk2:Tk M (hole0 j B v qs bs) N)(h1:j<bs.length)(hI:b'.Ins=(ix bs j).Ins)(hT:b'.Term=(ix bs j).Term):LH P n w0 ops Q X Γ L e rest:=fun F H hp=>by
 have h3:=hp_tks hp (kc hk (kc hk2 kn))
 have hf:bkF qs bs:=h3.ok.2.2.1.1
 have h4:Hp X Γ (gl B rPhi 62 (ix qs j).P b'.Phis::gl B rBV 160 v qs::hole j B rPhi 62 (qs.map BV.P) (bs.map D.Block.Phis)::rw' B rIns 163 (qs.map BV.I) (bs.map D.Block.Ins)::N) F H :=
  hp_unbox (Ls:=[_,_,_]) ⟨h3.hx,h3.hin,h3.hw,h3.hd,⟨h3.ok.1,h3.ok.2.1,h3.ok.2.2.1.2,h3.ok.2.2.2⟩,h3.ge⟩
 have hl:j<qs.length:=by rw[hf.1];exact h1
 have h6:=(hp_tks h4 (kc k0 (kc k1 (kd kn)))).unrow (by simpa using hl) (by simpa using h1)
 rw[←ix_map BV.P hl undef,set_same,show(List.map D.Block.Phis bs).set j b'.Phis=List.map D.Block.Phis (bs.set j b') by rw[List.map_set],
  ←map_same D.Block.Ins (a:=b') h1 hI] at h6
 exact c F H (hp_bkc ⟨by simp[hf.1],by rw[hf.2,map_same D.Block.Term h1 hT]⟩ (hp_tks h6 (kc k1 (kd kn))))
theorem hp_term{H':Heap}{t:D.Term}(hp:Hp X Γ L F H)(hk:Tk L (bk B v qs bs) M)(h1:j<bs.length)
  (hs:Gl rBV 160 F H B v qs→∃g,v.ownBlock=some g∧Tw g H H'∧Gl rBV 160 F H' B v (qs.set j { (ix qs j) with T:=t })):Hp X Γ (bk B v (qs.set j { (ix qs j) with T:=t }) (bs.set j { (ix bs j) with Term:=t })::M) F H':=by
 obtain⟨hf,h4⟩:=hp_bko (hp.front hk)
 have hl:j<qs.length:=by rw[hf.1];exact h1
 obtain⟨g,hg,t',hb⟩:=hs (h4.at k0).1
 have h5:=h4.set (R':=gl B rBV 160 v (qs.set j { (ix qs j) with T:=t })) k0 ⟨Nat.le_of_eq t'.1.symm,fun k _ h2=>t'.2 k (fun e1=>h2 (e1▸hg))⟩ ⟨hb,by rw[t'.1];exact hp1 h4 k0⟩ (fun k h => .inr h)
 rw[←map_same BV.P (a:={ (ix qs j) with T:=t }) hl rfl,←map_same BV.I (a:={ (ix qs j) with T:=t }) hl rfl,←map_same D.Block.Phis (a:={ (ix bs j) with Term:=t }) h1 rfl,←map_same D.Block.Ins (a:={ (ix bs j) with Term:=t }) h1 rfl] at h5
 exact hp_bkc (bkF_set hf h1 rfl) h5
theorem jbT{T:TypeId}{x y:Operand}{us:List Value}{t:D.Term}(hk:Tk L (bk B v qs bs) M)(h1:j<bs.length)(hT:Sz P T 4)(hx:ev e x=some (.pointer (some ⟨vblk v,o,none⟩)))(ho:o=voff v+j*6+2)(hy:ev e y=some (.agg us.toArray))(hu:us.length=4)(hv:allOne us)(ht:Nd Γ L (da rTerm (.agg us.toArray) t))
  (k:LH P n w0 ops Q X Γ (bk B v (qs.set j { (ix qs j) with T:=t }) (bs.set j { (ix bs j) with Term:=t })::M) e rest):LH P n w0 ops Q X Γ L e (⟨none,.store T x y,ty,pos,af,none⟩::rest):=fun F H hp=>by
 have hq:=(hp.at hk)
 have ht':=ht F H hp.hin hp.hd hp.ok
 obtain⟨l',e1,_,h3⟩:=ht'
 injection e1 with e1;have e1:us=l':=by simpa using e1
 subst e1
 exact LF.chg0 (OpCh.storePA hq.2.1.1 (by rw[hq.1.1];exact h1) hT hx ho hy hu hv.mem (by decide) (by rw[hu];decide) (fun f=>putT hu h3)) (by rintro _ H' h4;exact k F H' (hp_term hp hk h1 fun _=>h4))
theorem jbTo{T:TypeId}{x y:Operand}{l:List Int}(hk:Tk L (bk B v qs bs) M)(h1:j<bs.length)(hT:Sz P T 1)(hx:ev e x=some (.pointer (some ⟨vblk v,o,none⟩)))(ho:o=voff v+j*6+2+2)(hy:ev e y=some u)(hv:u.oneCell'=true)(ht:Nd Γ L (dv (rL (rI .i64)) u l))
  (k:LH P n w0 ops Q X Γ (bk B v (qs.set j { (ix qs j) with T:={ (ix bs j).Term with To:=l } }) (bs.set j { (ix bs j) with Term:={ (ix bs j).Term with To:=l } })::M) e rest):LH P n w0 ops Q X Γ L e (⟨none,.store T x y,ty,pos,af,none⟩::rest):=fun F H hp=>by
 have hq:=(hp.at hk)
 have hl:j<qs.length:=by rw[hq.1.1];exact h1
 have he:(ix qs j).T=(ix bs j).Term:=by
  have:=congrArg (fun l=>l.getD j default) hq.1.2
  rwa[ix_map BV.T hl,ix_map D.Block.Term h1] at this
 exact LF.chg0 (OpCh.storeP hq.2.1.1 hl hT hx (off:=4) (by rw[ho,Nat.add_assoc];rfl) hy hv (by decide) (fun f h=>he▸putTo (ht F H hp.hin hp.hd hp.ok) h)) (by rintro _ H' h4;exact k F H' (hp_term hp hk h1 fun _=>h4))
theorem own_rep{α:Type}{r:Rp α}{T k:Nat}{B:Nat}:∀m,¬Own (rws B r T (List.replicate m (.slice none 0 0)) (List.replicate m [])) k
 | 0=>id
 | m+1=>fun h=>h.elim (fun h=>by cases h) (own_rep m)
theorem ok_rep{α:Type}{r:Rp α}{T:Nat}{B:Nat}(hB:B≤H.size):∀m,Ok F H (rws B r T (List.replicate m (.slice none 0 0)) (List.replicate m []))
 | 0=>trivial
 | m+1=>⟨⟨Gl.nil _ _ _,hB⟩,(fun k h=>by cases h),ok_rep hB m⟩
theorem jbmk{T:TypeId}{x y:Operand}{z:Value}{bytes m d:Nat}{I J:Int}(hT:P.underlying T=some (.slice 160))(hE:(P.info? 160).map (fun i=>(i.zero,i.size,i.bytes))=some (some z,6,bytes))(hz:z.cells=#[.slice none 0 0,.slice none 0 0,.int .i64 0,.slice none 0 0,.slice none 0 0,.int .i32 0])
  (hx:ev e x=some (.int .i64 I)) (hy:ev e y=some (.int .i64 J)) (hI:I=m) (hJ:J=m) (h1:bytes*m≤281474976710656∧m≤140737488355328)
  (k:∀g,LH P n w0 ops Q X Γ (bk X.n (.slice (some ⟨g,0,none⟩) m m) (List.replicate m default) (List.replicate m default)::L) ((d,.slice (some ⟨g,0,none⟩) m m)::e) rest) (hd:Nat.blt d n.sz=true:=by rfl):LH P n w0 ops Q X Γ L e (⟨some d,.makeSlice T x y,ty,pos,af,none⟩::rest):=fun F H hp =>
 LF.chg (OpCh.makeN (F:=F) (r:=rBV) (n:=m) (a:=default) hT hE (by rw[hz];rfl) (by decide) hx hy hI hJ h1.1 h1.2 (by rw[hz];exact⟨⟨rfl,rfl⟩,⟨rfl,rfl⟩,⟨rfl,rfl⟩,rL.nil _,rL.nil _,rfl,rfl⟩)) (by
  rintro _ H' ⟨g,rfl,eg,sg,kg,hb⟩
  refine k g F H' (hp.new (R:=bk X.n (.slice (some ⟨g,0,none⟩) m m) (List.replicate m default) (List.replicate m default)) kg ⟨⟨by simp,by simp;exact .inr rfl⟩,?_⟩ ?_)
  ·have hB:X.n≤H'.size:=Nat.le_trans hp.hw.1 kg.1
   refine⟨⟨(hb hp.hin).base hp.hw.1,hB⟩,fun k _ ho=>?_,?_,fun k ho=>?_,?_,fun _ _ h=>h,trivial⟩
   ·simp only[List.map_replicate] at ho
    exact ho.elim (fun h=>own_rep m h) (fun h=>h.elim (fun h=>own_rep m h) id)
   ·rw[List.map_replicate,List.map_replicate];exact ok_rep hB m
   ·rw[List.map_replicate,List.map_replicate] at ho;exact(own_rep m ho).elim
   ·rw[List.map_replicate,List.map_replicate];exact ok_rep hB m
  ·rintro k (h|h|h|h)
   ·exact((hb hp.hin).blk k h).1
   ·rw[List.map_replicate,List.map_replicate] at h;exact(own_rep m h).elim
   ·rw[List.map_replicate,List.map_replicate] at h;exact(own_rep m h).elim
   ·exact h.elim) hd
abbrev lensB(bs:List D.Block):Prop:=bs.length<1073741824∧∀b∈bs,b.Phis.length<1073741824∧b.Ins.length<1073741824
theorem bk_freeze(hin:InH F H)(h:(bk B v qs bs).sat F H)(hl:lensB bs):∃G,F.le G∧InH G H∧(∀k,k<B→G k=F k)∧(∀k,¬(bk B v qs bs).own k→G k=F k)∧(rL rBlock).rv G v bs:=by
 obtain⟨hf,o1,o2,o3,o4,o5,_⟩:=h
 have o1':Gl rBV 160 F H B v qs:=o1.1
 obtain⟨G,f1,f2,f3,f4,f5⟩:=o1'.freeze (N:=1073741824) hin (by rw[hf.1];exact hl.1)
 have q3:Ok G H (rws B rPhi 62 (qs.map BV.P) (bs.map D.Block.Phis)):=Ok.st f1 (Nat.le_refl _) (fun k hk=>(f4 k (fun e1=>o2 k e1 (.inl hk))).trans (Ok.no (L:=rws B rPhi 62 (qs.map BV.P) (bs.map D.Block.Phis)) o3 hk)) (fun _ _=>rfl) o3
 obtain⟨K,g1,g2,g3,g4,g5⟩:=rws_freeze f2 q3 (by simp[hf.1]) (fun l hl'=>by obtain⟨b,hb,rfl⟩:=List.mem_map.1 hl';exact(hl.2 b hb).1)
 have q5:Ok K H (rws B rIns 163 (qs.map BV.I) (bs.map D.Block.Ins)):=Ok.st (f1.trans g1) (Nat.le_refl _) (fun k hk=>((g4 k (fun h=>o4 k h (.inl hk))).trans (f4 k (fun e1=>o2 k e1 (.inr (.inl hk))))).trans (Ok.no (L:=rws B rIns 163 (qs.map BV.I) (bs.map D.Block.Ins)) o5 hk)) (fun _ _=>rfl) o5
 obtain⟨J,i1,i2,i3,i4,i5⟩:=rws_freeze g2 q5 (by simp[hf.1]) (fun l hl'=>by obtain⟨b,hb,rfl⟩:=List.mem_map.1 hl';exact(hl.2 b hb).2)
 refine⟨J,(f1.trans g1).trans i1,i2,fun k hk=>(i3 k hk).trans ((g3 k hk).trans (f3 k hk)),fun k hk=>(i4 k (fun h=>hk (.inr (.inr (.inl h))))).trans ((g4 k (fun h=>hk (.inr (.inl h)))).trans (f4 k (fun h=>hk (.inl h)))),?_⟩
 obtain⟨a,b,c,d,f,g,g',x,y⟩:=Rp.rv.up f5 (g1.trans i1)
 refine⟨hf.1▸a,b,c,hf.1▸d,hf.1▸f,fun i hi=>g i (by rw[hf.1];exact hi),g',fun i hi=>x i (by rw[hf.1];exact hi),fun i hi=>?_⟩
 have hi':i<qs.length:=by rw[hf.1];exact hi
 have h2:=y i hi'
 have h3:=Rp.rv.up (g5 i (by simpa using hi') (by simpa using hi)) i1
 have h4:=i5 i (by simpa using hi') (by simpa using hi)
 simp only[List.getElem_map] at h3 h4
 have h5:qs[i].T=bs[i].Term:=by
  have:=congrArg (fun l=>l[i]?) hf.2
  simpa[hi,hi'] using this
 have h6:rTerm.ok J qs[i].T (fun q=>g' (i*6+(q+1+1))):=h2.2.2
 rw[h5] at h6
 refine⟨(rL rPhi).ext (fun j hj=>?_) h3,(rL rIns).ext (fun j hj=>?_) h4,h6⟩
 ·rw[show j=0 from Nat.lt_one_iff.1 hj];exact h2.1.1.symm
 ·rw[show j=0 from Nat.lt_one_iff.1 hj];exact h2.2.1.1.symm
theorem hp_bfz(hp:Hp X Γ L F H)(hk:Tk L (bk X.n v qs bs) M)(hl:lensB bs):∃G,Hp X (dv (rL rBlock) v bs::Γ) M G H:=by
 obtain⟨o1,o2,o3⟩:=hk.ok hp.ok
 obtain⟨G,h1,h2,h3,h4,h5⟩:=bk_freeze hp.hin o1 hl
 have h6:∀k,Own M k→G k=F k:=fun k hk1=>h4 k (fun e1=>o2 k e1 hk1)
 exact⟨G,⟨⟨hp.hx.1.trans h1,fun k hk1=>(h3 k hk1).trans (hp.hx.2 k hk1)⟩,h2,hp.hw,⟨h5,hp.hd.up h1⟩,o3.st h1 (Nat.le_refl _) (fun k hk1=>(h6 k hk1).trans (o3.no hk1)) (fun _ _=>rfl),fun k hk1=>hp.ge k (hk.own (.inr hk1))⟩⟩
theorem qbfz{x:Exit}(hk:Tk L (bk X.n v qs bs) M)(hl:lensB bs)(k:QH n w0 Q X (dv (rL rBlock) v bs::Γ) M e x):QH n w0 Q X Γ L e x:=fun F H hp=>by
 obtain⟨G,h⟩:=hp_bfz hp hk hl;exact k G H h
variable{f:FuncId}{args:Array Value}{x:Value}
theorem glflatB{T:TypeId}{F G:PH}{H:Heap}{B:Nat}{v:Value}{l:List Bool}(h:Gl rB T G H B v l)(hl:F.le G):Gl rB T F H B v l:=by
 obtain⟨xs,h1,h2,h3⟩:=h
 refine⟨xs,h1,fun b hb=>?_,h3⟩
 cases hF:F b with
 | none=>rfl
 | some o=>have:=hl b o hF;rw[h2 b hb] at this;cases this
theorem Tg_bt{kd:IntKind}{T2:TypeId}{m:List Int}(h:Tg P f args (dv (rL rBlock) v bs::D0) [] (rI kd) T2 m)(hl:lensB bs):Tr P f args D0 [bk B v qs bs] (fun v:Value=>v) (fun _=>[]) (fun B' u=>[gl B' (rI kd) T2 u m,bk B v qs bs]):=fun F H hin hd ho=>by
 obtain⟨G,g1,g2,g3,g4,g5⟩:=bk_freeze hin ho.1 hl
 refine(h G H g2 ⟨g5,hd.up g1⟩ trivial).mono ?_
 rintro u H' ⟨_,F',rfl,h2⟩
 refine⟨u,F,rfl,fun B' hB=>?_⟩
 have h3:=h2 B' hB
 obtain⟨a,b,c⟩:=h3.less hin g1
 have hu:∀k,u.ownBlock=some k→H.size≤k:=fun k hk=>(h3.ge k (.inl hk)).resolve_right id
 refine⟨a,b,⟨c.1,fun k hk hn=>c.2 k hk id⟩,trivial,⟨⟨h3.ok.1.1.flatI (g1.trans h3.hx.1),h3.ok.1.2⟩,fun k hk ho'=>?_,⟨Res.st _ (PH.le.refl F) c.1 (fun k hk=>Res.no _ ho.1 hk) (fun k hk=>c.2 k (Res.lt _ ho.1 hk) id) ho.1,fun _ _=>id,trivial⟩⟩,fun k hk=>?_⟩
 ·have h4:=Res.lt _ ho.1 (ho'.resolve_right id)
  have h5:=hu k hk
  omega
 ·rcases hk with hk|hk
  ·exact .inl (hu k hk)
  ·exact .inr hk
theorem Tg_btB{T2:TypeId}{m:List Bool}(h:Tg P f args (dv (rL rBlock) v bs::D0) [] rB T2 m)(hl:lensB bs):Tr P f args D0 [bk B v qs bs] (fun v:Value=>v) (fun _=>[]) (fun B' u=>[gl B' rB T2 u m,bk B v qs bs]):=fun F H hin hd ho=>by
 obtain⟨G,g1,g2,g3,g4,g5⟩:=bk_freeze hin ho.1 hl
 refine(h G H g2 ⟨g5,hd.up g1⟩ trivial).mono ?_
 rintro u H' ⟨_,F',rfl,h2⟩
 refine⟨u,F,rfl,fun B' hB=>?_⟩
 have h3:=h2 B' hB
 obtain⟨a,b,c⟩:=h3.less hin g1
 have hu:∀k,u.ownBlock=some k→H.size≤k:=fun k hk=>(h3.ge k (.inl hk)).resolve_right id
 refine⟨a,b,⟨c.1,fun k hk hn=>c.2 k hk id⟩,trivial,⟨⟨glflatB h3.ok.1.1 (g1.trans h3.hx.1),h3.ok.1.2⟩,fun k hk ho'=>?_,⟨Res.st _ (PH.le.refl F) c.1 (fun k hk=>Res.no _ ho.1 hk) (fun k hk=>c.2 k (Res.lt _ ho.1 hk) id) ho.1,fun _ _=>id,trivial⟩⟩,fun k hk=>?_⟩
 ·have h4:=Res.lt _ ho.1 (ho'.resolve_right id)
  have h5:=hu k hk
  omega
 ·rcases hk with hk|hk
  ·exact .inl (hu k hk)
  ·exact .inr hk
end
section
variable{P:Program}{Γ:List Dt}{L M:List Res}{e:Env}{F:PH}{H:Heap}{B j i o:Nat}{v u:Value}{qs:List BV}{bs:List D.Block}{T:TypeId}{x y:Operand}{kd:IntKind}{I:Int}
theorem bk_row0(h:(bk B v qs bs).sat F H)(h1:j<bs.length):Gl rPhi 62 F H B (ix qs j).P (ix bs j).Phis:=by
 have hl:j<qs.length:=by rw[h.1.1];exact h1
 obtain⟨h3,h4⟩:=rws_ix (B:=B) (r:=rPhi) (T:=62) (vs:=qs.map BV.P) (ls:=bs.map D.Block.Phis) (i:=j) (by simpa using hl) (by simpa using h1)
 have h5:=((Ok.focus h3).1 h.2.2.2.1).1
 rw[h4,ix_map BV.P hl,ix_map D.Block.Phis h1] at h5;exact h5.1
theorem bk_row1(h:(bk B v qs bs).sat F H)(h1:j<bs.length):Gl rIns 163 F H B (ix qs j).I (ix bs j).Ins:=by
 have hl:j<qs.length:=by rw[h.1.1];exact h1
 obtain⟨h3,h4⟩:=rws_ix (B:=B) (r:=rIns) (T:=163) (vs:=qs.map BV.I) (ls:=bs.map D.Block.Ins) (i:=j) (by simpa using hl) (by simpa using h1)
 have h5:=((Ok.focus h3).1 h.2.2.2.2.2.1).1
 rw[h4,ix_map BV.I hl,ix_map D.Block.Ins h1] at h5;exact h5.1
theorem jbn0(hT:P.underlying T=some (.slice 62))(hk:Tk L (bk B v qs bs) M)(h1:j<bs.length)(hx:ev e x=some (ix qs j).P):OH P Γ L e (.call { callee := .builtin .len,args:=#[x],argTypes:=#[T] }) (.int .i64 ((ix bs j).Phis.length:Nat)):=fun F H _ _ h=>OpOk.lenG hT (bk_row0 (hk.ok h).1 h1) hx
theorem jbn1(hT:P.underlying T=some (.slice 163))(hk:Tk L (bk B v qs bs) M)(h1:j<bs.length)(hx:ev e x=some (ix qs j).I):OH P Γ L e (.call { callee := .builtin .len,args:=#[x],argTypes:=#[T] }) (.int .i64 ((ix bs j).Ins.length:Nat)):=fun F H _ _ h=>OpOk.lenG hT (bk_row1 (hk.ok h).1 h1) hx
theorem jbi0(hT:P.underlying T=some (.slice 62))(hE:Sz P 62 2)(hk:Tk L (bk B v qs bs) M)(h1:j<bs.length)(hx:ev e x=some (ix qs j).P)(hi:ev e y=some (.int kd I))(hI:I=i)(h2:i<(ix bs j).Phis.length):OH P Γ L e (.indexAddr T x y) (.pointer (some ⟨vblk (ix qs j).P,voff (ix qs j).P+i*2,none⟩)):=fun F H _ _ h=>OpOk.idxG hT hE (bk_row0 (hk.ok h).1 h1) hx hi hI h2 (by decide)
theorem jbi1(hT:P.underlying T=some (.slice 163))(hE:Sz P 163 5)(hk:Tk L (bk B v qs bs) M)(h1:j<bs.length)(hx:ev e x=some (ix qs j).I)(hi:ev e y=some (.int kd I))(hI:I=i)(h2:i<(ix bs j).Ins.length):OH P Γ L e (.indexAddr T x y) (.pointer (some ⟨vblk (ix qs j).I,voff (ix qs j).I+i*5,none⟩)):=fun F H _ _ h=>OpOk.idxG hT hE (bk_row1 (hk.ok h).1 h1) hx hi hI h2 (by decide)
theorem jbd0(hk:Tk L (bk B v qs bs) M)(h1:j<bs.length)(h2:i<(ix bs j).Phis.length)(hT:One P T)(hx:ev e x=some (.pointer (some ⟨vblk (ix qs j).P,o,none⟩)))(ho:o=voff (ix qs j).P+i*2+0):OH P Γ L e (.load T x) (.int .i64 (ix (ix bs j).Phis i).Dst):=fun F H _ _ h=>by
 obtain⟨f,h3,h4⟩:=(bk_row0 (hk.ok h).1 h1).cellP (off:=0) h2 (by decide)
 rw[show f 0 = .int .i64 (ix (ix bs j).Phis i).Dst from h3.1.1] at h4
 exact OpOk.load hT hx rfl (by rw[ho];exact h4)
theorem wbd0(hk:Tk L (bk B v qs bs) M)(h1:j<bs.length)(h2:i<(ix bs j).Phis.length):Wr Γ L .i64 (ix (ix bs j).Phis i).Dst:=fun F H _ _ h=>by
 obtain⟨f,h3,_⟩:=(bk_row0 (hk.ok h).1 h1).cellP (off:=0) h2 (by decide)
 exact h3.1.2
theorem jbA1(hk:Tk L (bk B v qs bs) M)(h1:j<bs.length)(h2:i<(ix bs j).Ins.length)(hT:∃d,P.underlying T=some d∧(match d with | .struct _ | .array _ _=>true|_=>false)=true)(hS:Sz P T 5)(hx:ev e x=some (.pointer (some ⟨vblk (ix qs j).I,voff (ix qs j).I+i*5,none⟩))):OE P Γ L e (.load T x) (fun u F=>(da rIns u (ix (ix bs j).Ins i)).sat F):=fun F H _ _ h=>OpOk.ldGA (bk_row1 (hk.ok h).1 h1) h2 hT hS hx
theorem bkn(hB:B≤H.size):(bk B (.slice none 0 0) [] []).sat F H:=⟨⟨rfl,rfl⟩,⟨Gl.nil _ _ _,hB⟩,(fun k h=>by cases h),trivial,(fun _ h=>h.elim),trivial,(fun _ h=>h.elim),trivial⟩
end
theorem jbnil{P:Program}{Γ:List Dt}{L:List Res}{e:Env}{X:Cx}{n:Fs}{w0:World}{Q:Exit→Act→World→Prop}{ops:Array Oper}{rest:List Oper}(k:LH P n w0 ops Q X Γ (bk X.n (.slice none 0 0) [] []::L) e rest):LH P n w0 ops Q X Γ L e rest:=fun F H hp=>k F H (hp.new (R:=bk X.n (.slice none 0 0) [] []) (Kp.refl _ _) (bkn hp.hw.1) (fun k h=>by rcases h with h|h|h|h;(· cases h);(· exact h.elim);(· exact h.elim);exact h.elim))
def SlB(v:Value)(m:Nat):Prop:=∃a c,v = .slice a m c∧(0<m→∃g,a=some ⟨g,0,none⟩)
section
variable{P:Program}{Γ:List Dt}{L M:List Res}{e:Env}{X:Cx}{n:Fs}{w0:World}{Q:Exit→Act→World→Prop}{B j m:Nat}{v:Value}{qs:List BV}{bs:List D.Block}{T:TypeId}{x y:Operand}{k:IntKind}{I:Int}{c:Code}{ops:Array Oper}{rest:List Oper}
theorem bk_slb{F:PH}{H:Heap}(h:(bk B v qs bs).sat F H)(hm:bs.length=m):SlB v m:=by
 obtain⟨xs,g1,_⟩:=h.2.1.1
 rw[h.1.1,hm] at g1
 rcases g1.2 with⟨h9,h8⟩|⟨g,cap,cur,h9,_⟩
 ·subst h8;exact⟨_,_,h9,fun h=>absurd h (Nat.lt_irrefl 0)⟩
 ·exact⟨_,_,h9,fun _=>⟨g,rfl⟩⟩
theorem cbk(hk:Tk L (bk B v qs bs) M)(hm:bs.length=m)(kk:SlB v m→CH P n w0 Q X Γ L e c):CH P n w0 Q X Γ L e c:=fun F H hp=>kk (bk_slb (hp.at hk) hm) F H hp
theorem lbk(hk:Tk L (bk B v qs bs) M)(hm:bs.length=m)(kk:SlB v m→LH P n w0 ops Q X Γ L e rest):LH P n w0 ops Q X Γ L e rest:=fun F H hp=>kk (bk_slb (hp.at hk) hm) F H hp
theorem jbi'(hT:P.underlying T=some (.slice 160))(hE:Sz P 160 6)(hv:SlB v m)(hx:ev e x=some v)(hi:ev e y=some (.int k I))(hI:I=j)(h1:j<m):OH P Γ L e (.indexAddr T x y) (.pointer (some ⟨vblk v,voff v+j*6,none⟩)):=fun F H _ _ _=>by
 obtain⟨a,cap,rfl,hg⟩:=hv
 obtain⟨g,rfl⟩:=hg (by omega)
 subst hI
 have:=OpOk.indexA (H:=H) hT hE hx hi (by omega) (by omega)
 simpa[vblk,voff] using this
end
theorem ix_w{k:IntKind}{l:List Int}(h:∀x∈l,k.wrap x=x)(h0:k.wrap 0=0)(i:Nat):k.wrap (ix l i)=ix l i:=by
 by_cases hi:i<l.length
 ·exact h _ (ix_mem hi)
 ·simp only[ix,List.getD,List.getElem?_eq_none (Nat.le_of_not_lt hi),Option.getD_none];exact h0
theorem fn_dd{F:PH}{v:Value}{m:D.Func}(hw:IntKind.i64.wrap m.Params=m.Params)(h:AllD F [dv (rL rBlock) v m.Blocks]):AllD F [da rFunc (vFunc m v) m]:=⟨rFunc.mk h.1 hw,trivial⟩
end Go.Proofs.YtehhjlkmbdhckaaGreat
