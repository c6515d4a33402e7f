/- Lemmas that the claim is made of. Conditions: each lemma names its own. -/
import Derived.Test.YtmfkkodnghambaaGreatKK1
set_option maxRecDepth 20000
set_option maxHeartbeats 4000000
set_option linter.unusedSectionVars false
set_option linter.unusedSimpArgs false
set_option linter.unusedVariables false
namespace Go.Proofs.YtmfkkodnghambaaGreat
open Go.JE
abbrev U57:=@Tryz.underlying57
abbrev U63:=@Tryz.underlying63
theorem Ws:Ag9 Tryz.prog 111:=⟨_,Tryz.underlying111,rfl⟩
theorem A65:Ag9 Tryz.prog 65:=⟨_,Tryz.underlying65,rfl⟩
theorem r9:Ent Tryz.prog 173:=⟨_,Tryz.func173,by kernel_rfl,by kernel_rfl⟩
theorem r8:Ent Tryz.prog 175:=⟨_,Tryz.func175,by kernel_rfl,by kernel_rfl⟩
theorem E81:Ent Tryz.prog 81:=⟨_,Tryz.func81,by kernel_rfl,by kernel_rfl⟩
theorem Jr:Sz Tryz.prog 111 2:=by unfold Sz;kernel_rfl
theorem Z65:Sz Tryz.prog 65 2:=by unfold Sz;kernel_rfl
def Di{α:Type}(l:List α)(q:α→Bool):Int:=match l.findIdx? q with
 | some i=>i
 | none=>-1
def Hq{α:Type}(l:List α)(q:α→Bool):Bool:=l.any q
theorem Tn{α:Type}[Inhabited α]{l:List α}{q:α→Bool}{k:Nat}(hk:k<l.length)(h:∀x∈l.take k,q x=false)(h1:q (ix l k)=true):Di l q=k:=by
 have:l.findIdx? q=some k:=by
  rw[List.findIdx?_eq_some_iff_getElem]
  refine⟨hk,by rw[←Bn hk];exact h1,fun j hj=>?_⟩
  have:=h l[j] (by rw[List.mem_take_iff_getElem];exact⟨j,by omega,rfl⟩)
  simp[this]
 simp[Di,this]
theorem Vv{α:Type}{l:List α}{q:α→Bool}{k:Nat}(hk:l.length≤k)(h:∀x∈l.take k,q x=false):Di l q=-1:=by
 rw[List.take_of_length_le hk] at h
 have:l.findIdx? q=none:=by rw[List.findIdx?_eq_none_iff];exact h
 simp[Di,this]
theorem Vw{α:Type}(l:List α)(q:α→Bool):decide (0≤Di l q)=Hq l q:=by
 unfold Di Hq
 cases h:l.findIdx? q with
 | none =>
  rw[List.findIdx?_eq_none_iff] at h
  have:l.any q=false:=by rw[List.any_eq_false];intro x hx;simp[h x hx]
  rw[this];rfl
 | some i =>
  obtain⟨hi,h1,_⟩:=List.findIdx?_eq_some_iff_getElem.1 h
  have:l.any q=true:=List.any_eq_true.2 ⟨_,List.getElem_mem hi,h1⟩
  rw[this];simp
theorem Sw{α:Type}[Inhabited α]{l:List α}{q:α→Bool}{k:Nat}(hk:k<l.length)(h:∀x∈l.take k,q x=false)(h1:q (ix l k)=false):∀x∈l.take (k+1),q x=false:=by
 intro x hx
 rw[Ff hk] at hx
 rcases List.mem_append.1 hx with hx|hx
 ·exact h x hx
 ·simp at hx;subst hx;exact h1
theorem WO{a0:Value}{l:List Int}{fp:Nat}{cp:List Value}{D1:List Dt}{L1:List Res}(q:Int→Bool)(hE:Ent Tryz.prog fp)(hq:∀x,x∈l→Pd Tryz.prog fp (.int .i64 x::cp).toArray [dl D1] L1 (q x)):Tr Tryz.prog 175 #[a0,.func (.func fp) #[] cp.toArray] [dv (rL (rI .i64)) a0 l,dl D1] [it L1] (fun _:Unit => .int .i64 (Di l q)) (fun _=>[]) (fun _ _=>[it L1]):=by
 refine Af (args:=[a0,.func (.func fp) #[] cp.toArray]) Tryz.func175 rfl rfl rfl fun w0 X=>?_
 refine jq (jr (ja Z (jn (jx (jq (jq (jr (jm Z (jdq d0 fun q1 w1=>js (jln U22 d0 Z) (jm Z ?_))))))))))
 refine jn (jx (jb ?_))
 refine jlp (fun(k:Nat)=>⟨k≤l.length∧(∀x∈l.take k,q x=false),[dv (rL (rI .i64)) a0 l,dl D1],[it L1],[(0,a0),(1,.func (.func fp) #[] cp.toArray),(7,.int .i64 (↑l.length)),(8,.int .i64 (↑k))],l.length-k⟩) 0 ⟨by omega,by simp⟩ (dc d0 (dc d1 dn)) (kc k0 kn) ⟨Z,Z,Z,eqI (by omega),trivial⟩ ?_
 rintro k;dsimp only;rintro⟨hk,hR⟩
 refine jq (jr (js (Ai Z Z) (jn (jx (jq ?_)))))
 refine jif Z (fun hc1=>?_) (fun hc1=>?_)
 refine jsk (jx (jq (jb (jq (jr (jm Z (ja Z (jn (jx (jq (jr ?_)))))))))))
 refine jm Z (jm Z (jm Z (js (jix U22 Z3 d0 Z Z Z (by omega)) (js (jlI (dix d0 k (by omega)) O3 Z) (jc hE Z Z (hq (ix l k) (Ax (by omega))) (dc d1 dn) (kc k0 kn) (fun _=>p0) (fun _=>p1) fun _=>jn (jx ?_))))))
 refine jif Z (fun hc2=>?_) (fun hc2=>?_)
 refine jq (jr (jm Z (ja Z (jn (jx (jrt (jbr (jtr (jtr (jbr (jtr ?_)))))))))))
 exact jr1 Z Z () (congrArg (Value.int .i64) (Eq.symm (Tn (by omega) hR hc2))) dn (fun _ _=>(kc k0 kn))
 refine jsk (jbn (jx (jr (js (Ac Z Z (by omega)) (jm Z (jn ?_))))))
 exact jag (k+1) ⟨by omega,Sw (by omega) hR hc2⟩ (dc d0 (dc d1 dn)) (kc k0 kn) ⟨Z,Z,Z,eqI (by omega),trivial⟩
 refine jex (jtx (jtx (jbh (jx (jq (jr (ja Z (jn (jx (jrt ?_))))))))))
 exact jr1 Z Z () (congrArg (Value.int .i64) (Eq.symm (Vv (by omega) hR))) dn (fun _ _=>(kc k0 kn))
theorem IC{a0:Value}{l:List Int}{fp:Nat}{cp:List Value}{D1:List Dt}{L1:List Res}(q:Int→Bool)(hE:Ent Tryz.prog fp)(hq:∀x,x∈l→Pd Tryz.prog fp (.int .i64 x::cp).toArray [dl D1] L1 (q x)):Tr Tryz.prog 136 #[a0,.func (.func fp) #[] cp.toArray] [dv (rL (rI .i64)) a0 l,dl D1] [it L1] (fun _:Unit => .bool (Hq l q)) (fun _=>[]) (fun _ _=>[it L1]):=by
 refine Af (args:=[a0,.func (.func fp) #[] cp.toArray]) Tryz.func136 rfl rfl rfl fun w0 X=>?_
 refine jq (jr (ja Z (jn (jx (jq (jr (jm Z (jm Z (jdq d0 fun q1 w1=>jc r8 Z Z (WO q hE hq) (dc d0 (dc d1 dn)) (kc k0 kn) (fun _=>p0) (fun _=>p1) fun _=>js (Eo Z Z) ?_)))))))))
 refine ja Z (jn (jx (jrt ?_)))
 exact jr1 Z Z () (congrArg Value.bool (Eq.symm ((Vw l q).symm))) dn (fun _ _=>(kc k0 kn))
theorem L7{a0:Value}{l:List D.In}{fp:Nat}{cp:List Value}{D1:List Dt}{L1:List Res}(q:D.In→Bool)(hE:Ent Tryz.prog fp)(hq:∀x,x∈l→∀c:Unit,Pd Tryz.prog fp (vIn x c::cp).toArray [da rIn (vIn x c) x,dl D1] L1 (q x)):Tr Tryz.prog 81 #[a0,.func (.func fp) #[] cp.toArray] [dv (rL rIn) a0 l,dl D1] [it L1] (fun _:Unit => .int .i64 (Di l q)) (fun _=>[]) (fun _ _=>[it L1]):=by
 refine Af (args:=[a0,.func (.func fp) #[] cp.toArray]) Tryz.func81 rfl rfl rfl fun w0 X=>?_
 refine jq (jr (ja Z (jn (jx (jq (jq (jr (jm Z (jdq d0 fun q1 w1=>js (jln U63 d0 Z) (jm Z ?_))))))))))
 refine jn (jx (jb ?_))
 refine jlp (fun(k:Nat)=>⟨k≤l.length∧(∀x∈l.take k,q x=false),[dv (rL rIn) a0 l,dl D1],[it L1],[(0,a0),(1,.func (.func fp) #[] cp.toArray),(7,.int .i64 (↑l.length)),(8,.int .i64 (↑k))],l.length-k⟩) 0 ⟨by omega,by simp⟩ (dc d0 (dc d1 dn)) (kc k0 kn) ⟨Z,Z,Z,eqI (by omega),trivial⟩ ?_
 rintro k;dsimp only;rintro⟨hk,hR⟩
 refine jq (jr (js (Ai Z Z) (jn (jx (jq ?_)))))
 refine jif Z (fun hc1=>?_) (fun hc1=>?_)
 refine jsk (jx (jq (jb (jq (jr (jm Z (ja Z (jn (jx (jq (jr ?_)))))))))))
 refine jm Z (jm Z (jm Z (js (jix U63 Jr d0 Z Z Z (by omega)) (jA sIn (jlA (dix d0 k (by omega)) Ws Jr Z) fun _=>jc hE Z Z (hq (ix l k) (Ax (by omega)) ()) (dc d0 (dc d2 dn)) (kc k0 kn) (fun _=>p0) (fun _=>p1) fun _=>jn (jx ?_)))))
 refine jif Z (fun hc2=>?_) (fun hc2=>?_)
 refine jq (jr (jm Z (ja Z (jn (jx (jrt (jbr (jtr (jtr (jbr (jtr ?_)))))))))))
 exact jr1 Z Z () (congrArg (Value.int .i64) (Eq.symm (Tn (by omega) hR hc2))) dn (fun _ _=>(kc k0 kn))
 refine jsk (jbn (jx (jr (js (Ac Z Z (by omega)) (jm Z (jn ?_))))))
 exact jag (k+1) ⟨by omega,Sw (by omega) hR hc2⟩ (dc d1 (dc d2 dn)) (kc k0 kn) ⟨Z,Z,Z,eqI (by omega),trivial⟩
 refine jex (jtx (jtx (jbh (jx (jq (jr (ja Z (jn (jx (jrt ?_))))))))))
 exact jr1 Z Z () (congrArg (Value.int .i64) (Eq.symm (Vv (by omega) hR))) dn (fun _ _=>(kc k0 kn))
theorem f9{a0:Value}{l:List D.In}{fp:Nat}{cp:List Value}{D1:List Dt}{L1:List Res}(q:D.In→Bool)(hE:Ent Tryz.prog fp)(hq:∀x,x∈l→∀c:Unit,Pd Tryz.prog fp (vIn x c::cp).toArray [da rIn (vIn x c) x,dl D1] L1 (q x)):Tr Tryz.prog 130 #[a0,.func (.func fp) #[] cp.toArray] [dv (rL rIn) a0 l,dl D1] [it L1] (fun _:Unit => .bool (Hq l q)) (fun _=>[]) (fun _ _=>[it L1]):=by
 refine Af (args:=[a0,.func (.func fp) #[] cp.toArray]) Tryz.func130 rfl rfl rfl fun w0 X=>?_
 refine jq (jr (ja Z (jn (jx (jq (jr (jm Z (jm Z (jdq d0 fun q1 w1=>jc E81 Z Z (L7 q hE hq) (dc d0 (dc d1 dn)) (kc k0 kn) (fun _=>p0) (fun _=>p1) fun _=>js (Eo Z Z) ?_)))))))))
 refine ja Z (jn (jx (jrt ?_)))
 exact jr1 Z Z () (congrArg Value.bool (Eq.symm ((Vw l q).symm))) dn (fun _ _=>(kc k0 kn))
theorem WN{a0:Value}{l:List D.Phi}{fp:Nat}{cp:List Value}{D1:List Dt}{L1:List Res}(q:D.Phi→Bool)(hE:Ent Tryz.prog fp)(hq:∀x,x∈l→∀c:Value,Pd Tryz.prog fp (vPhi x c::cp).toArray [da As (vPhi x c) x,dl D1] L1 (q x)):Tr Tryz.prog 173 #[a0,.func (.func fp) #[] cp.toArray] [dv (rL As) a0 l,dl D1] [it L1] (fun _:Unit => .int .i64 (Di l q)) (fun _=>[]) (fun _ _=>[it L1]):=by
 refine Af (args:=[a0,.func (.func fp) #[] cp.toArray]) Tryz.func173 rfl rfl rfl fun w0 X=>?_
 refine jq (jr (ja Z (jn (jx (jq (jq (jr (jm Z (jdq d0 fun q1 w1=>js (jln U57 d0 Z) (jm Z ?_))))))))))
 refine jn (jx (jb ?_))
 refine jlp (fun(k:Nat)=>⟨k≤l.length∧(∀x∈l.take k,q x=false),[dv (rL As) a0 l,dl D1],[it L1],[(0,a0),(1,.func (.func fp) #[] cp.toArray),(7,.int .i64 (↑l.length)),(8,.int .i64 (↑k))],l.length-k⟩) 0 ⟨by omega,by simp⟩ (dc d0 (dc d1 dn)) (kc k0 kn) ⟨Z,Z,Z,eqI (by omega),trivial⟩ ?_
 rintro k;dsimp only;rintro⟨hk,hR⟩
 refine jq (jr (js (Ai Z Z) (jn (jx (jq ?_)))))
 refine jif Z (fun hc1=>?_) (fun hc1=>?_)
 refine jsk (jx (jq (jb (jq (jr (jm Z (ja Z (jn (jx (jq (jr ?_)))))))))))
 refine jm Z (jm Z (jm Z (js (jix U57 Z65 d0 Z Z Z (by omega)) (jA Oi (jlA (dix d0 k (by omega)) A65 Z65 Z) fun c15=>jc hE Z Z (hq (ix l k) (Ax (by omega)) c15) (dc d0 (dc d2 dn)) (kc k0 kn) (fun _=>p0) (fun _=>p1) fun _=>jn (jx ?_)))))
 refine jif Z (fun hc2=>?_) (fun hc2=>?_)
 refine jq (jr (jm Z (ja Z (jn (jx (jrt (jbr (jtr (jtr (jbr (jtr ?_)))))))))))
 exact jr1 Z Z () (congrArg (Value.int .i64) (Eq.symm (Tn (by omega) hR hc2))) dn (fun _ _=>(kc k0 kn))
 refine jsk (jbn (jx (jr (js (Ac Z Z (by omega)) (jm Z (jn ?_))))))
 exact jag (k+1) ⟨by omega,Sw (by omega) hR hc2⟩ (dc d1 (dc d2 dn)) (kc k0 kn) ⟨Z,Z,Z,eqI (by omega),trivial⟩
 refine jex (jtx (jtx (jbh (jx (jq (jr (ja Z (jn (jx (jrt ?_))))))))))
 exact jr1 Z Z () (congrArg (Value.int .i64) (Eq.symm (Vv (by omega) hR))) dn (fun _ _=>(kc k0 kn))
theorem f7{a0:Value}{l:List D.Phi}{fp:Nat}{cp:List Value}{D1:List Dt}{L1:List Res}(q:D.Phi→Bool)(hE:Ent Tryz.prog fp)(hq:∀x,x∈l→∀c:Value,Pd Tryz.prog fp (vPhi x c::cp).toArray [da As (vPhi x c) x,dl D1] L1 (q x)):Tr Tryz.prog 132 #[a0,.func (.func fp) #[] cp.toArray] [dv (rL As) a0 l,dl D1] [it L1] (fun _:Unit => .bool (Hq l q)) (fun _=>[]) (fun _ _=>[it L1]):=by
 refine Af (args:=[a0,.func (.func fp) #[] cp.toArray]) Tryz.func132 rfl rfl rfl fun w0 X=>?_
 refine jq (jr (ja Z (jn (jx (jq (jr (jm Z (jm Z (jdq d0 fun q1 w1=>jc r9 Z Z (WN q hE hq) (dc d0 (dc d1 dn)) (kc k0 kn) (fun _=>p0) (fun _=>p1) fun _=>js (Eo Z Z) ?_)))))))))
 refine ja Z (jn (jx (jrt ?_)))
 exact jr1 Z Z () (congrArg Value.bool (Eq.symm ((Vw l q).symm))) dn (fun _ _=>(kc k0 kn))
abbrev Zo:=@Tryz.underlying190
abbrev Pc:=@Tryz.underlying191
theorem A88:Ag9 Tryz.prog 88:=⟨_,Tryz.underlying88,rfl⟩
theorem Wm:Ent Tryz.prog 129:=⟨_,Tryz.func129,by kernel_rfl,by kernel_rfl⟩
theorem z6:Ent Tryz.prog 134:=⟨_,Tryz.func134,by kernel_rfl,by kernel_rfl⟩
theorem z5:Ent Tryz.prog 135:=⟨_,Tryz.func135,by kernel_rfl,by kernel_rfl⟩
theorem JI:Ent Tryz.prog 136:=⟨_,Tryz.func136,by kernel_rfl,by kernel_rfl⟩
theorem z4:Ent Tryz.prog 137:=⟨_,Tryz.func137,by kernel_rfl,by kernel_rfl⟩
theorem E14:Ent Tryz.prog 14:=⟨_,Tryz.func14,by kernel_rfl,by kernel_rfl⟩
theorem t0:Ent Tryz.prog 172:=⟨_,Tryz.func172,by kernel_rfl,by kernel_rfl⟩
theorem S8:Ent Tryz.prog 174:=⟨_,Tryz.func174,by kernel_rfl,by kernel_rfl⟩
theorem IG:Sz Tryz.prog 190 2:=by unfold Sz;kernel_rfl
theorem Z88:Sz Tryz.prog 88 5:=by unfold Sz;kernel_rfl
theorem R6:(Tryz.prog.info? 190).bind (·.zero)=some (.agg #[.int .i64 0,.int .i64 0]):=by kernel_rfl
def Rk(r:Int):Bool:=decide (r<0)||decide (8192≤r)
theorem IA:∀l:List Int,(!Hq l Rk)=Ij l
 | []=>rfl
 | x::l=>by
  have ih:=IA l
  unfold Hq at ih ⊢
  rw[List.any_cons,Ij,Bool.not_or,ih]
  by_cases h:x<0∨8192≤x
  ·rw[if_pos h];have:Rk x=true:=by unfold Rk;simp;exact h
   rw[this];rfl
  ·rw[if_neg h];have:Rk x=false:=by unfold Rk;simp;omega
   rw[this];rfl
theorem Hu{n:Int}(h:IntKind.i32.wrap n=n)(m:Int)(hm:0<m∧m≤1000):decide (IntKind.u32.wrap n<m)=decide (0≤n∧n≤m-1):=by
 have h1:=Ra h
 rw[decide_eq_decide,IntKind.wrap_u32];omega
def Ke(i:D.Mach):Bool :=
 if i.Op=3 then Mt i.Imm 16
 else if i.Op=18∨i.Op=19 then Mt i.Imm 8
 else if i.Op=20∨i.Op=21∨i.Op=22 then decide (0≤i.Imm∧i.Imm≤31)
 else if i.Op=24∨i.Op=26 then decide (0≤i.Imm∧i.Imm≤255)
 else true
def Db(i:D.Mach):Int :=
 if i.Op<1∨29<i.Op∨i.Op=2∨(i.Op=28∧4<i.Args.length) then 30
 else if Ij (Cy i)=false∨Ij (Gw i)=false then 31
 else if i.Op=29∧i.D=i.E then 12
 else if Ke i=false then 32
 else 0
def Lx(op:Int):Int:=if op=1 then 1 else if op=7∨op=8 then 0 else 2
def Ly(op:Int):Int:=if op=1 then 1 else if op=7∨op=8 then 0 else if op=6 then 65 else 2
def toM(e:D.End):Bool:=decide (1≤e.Op∧e.Op≤8∧Lx e.Op≤e.To.length∧e.To.length≤Ly e.Op)
def Uh(n b:Int):Bool:=decide (b<1)||decide (n≤b)
def Fc(e:D.End)(n:Int):Int:=if toM e=false then 30 else if Ij (nM9 e)=false then 31 else if Hq e.To (Uh n)=true then 14 else 0
def Lv(p:D.Phi)(ahead:List D.Phi):Int :=
 if Ij [p.Dst]=false∨Hq p.In (fun x=>!Ij [x.Val])=true then 31
 else if Hq ahead (fun x=>decide (x.Dst=p.Dst))=true then 12
 else 0
theorem SW(op:Int):((.tuple #[(lkM [(1,.agg #[.int .i64 1,.int .i64 1]),(2,.agg #[.int .i64 2,.int .i64 2]),(3,.agg #[.int .i64 2,.int .i64 2]),(4,.agg #[.int .i64 2,.int .i64 2]),(5,.agg #[.int .i64 2,.int .i64 2]),(6,.agg #[.int .i64 2,.int .i64 65]),(7,.agg #[.int .i64 0,.int .i64 0]),(8,.agg #[.int .i64 0,.int .i64 0])] op).getD (.agg #[.int .i64 0,.int .i64 0]),.bool (lkM [(1,.agg #[.int .i64 1,.int .i64 1]),(2,.agg #[.int .i64 2,.int .i64 2]),(3,.agg #[.int .i64 2,.int .i64 2]),(4,.agg #[.int .i64 2,.int .i64 2]),(5,.agg #[.int .i64 2,.int .i64 2]),(6,.agg #[.int .i64 2,.int .i64 65]),(7,.agg #[.int .i64 0,.int .i64 0]),(8,.agg #[.int .i64 0,.int .i64 0])] op).isSome]:Value) = .tuple #[.agg #[.int .i64 (Lx op),.int .i64 (Ly op)],.bool true]∧1≤op∧op≤8) ∨
  ((.tuple #[(lkM [(1,.agg #[.int .i64 1,.int .i64 1]),(2,.agg #[.int .i64 2,.int .i64 2]),(3,.agg #[.int .i64 2,.int .i64 2]),(4,.agg #[.int .i64 2,.int .i64 2]),(5,.agg #[.int .i64 2,.int .i64 2]),(6,.agg #[.int .i64 2,.int .i64 65]),(7,.agg #[.int .i64 0,.int .i64 0]),(8,.agg #[.int .i64 0,.int .i64 0])] op).getD (.agg #[.int .i64 0,.int .i64 0]),.bool (lkM [(1,.agg #[.int .i64 1,.int .i64 1]),(2,.agg #[.int .i64 2,.int .i64 2]),(3,.agg #[.int .i64 2,.int .i64 2]),(4,.agg #[.int .i64 2,.int .i64 2]),(5,.agg #[.int .i64 2,.int .i64 2]),(6,.agg #[.int .i64 2,.int .i64 65]),(7,.agg #[.int .i64 0,.int .i64 0]),(8,.agg #[.int .i64 0,.int .i64 0])] op).isSome]:Value) = .tuple #[.agg #[.int .i64 0,.int .i64 0],.bool false]∧¬(1≤op∧op≤8)):=by
 by_cases ho:1≤op∧op≤8
 ·refine .inl ⟨?_,ho⟩
  have hc:op=1∨op=2∨op=3∨op=4∨op=5∨op=6∨op=7∨op=8:=by omega
  rcases hc with rfl|rfl|rfl|rfl|rfl|rfl|rfl|rfl<;>rfl
 ·refine .inr ⟨?_,ho⟩
  have h1:∀k:Int,1≤k→k≤8→(k==op)=false:=fun k h2 h3=>by rw[beq_eq_false_iff_ne];omega
  simp[lkM,List.find?,h1]
theorem QD(r:Int):Tv Tryz.prog 172 #[.int .i64 r] [] [] (.bool (Rk r)):=by
 refine Af (args:=[.int .i64 r]) Tryz.func172 rfl rfl rfl fun w0 X=>?_
 refine jq (jr (ja Z (jn (jx (jq (jr (jm Z (js (Ai Z Z) (jm Z (jg Z Z (.f _) (fun hg=>jmv Z) (jg Z Z (.f _) (fun hg=>Eo (evg Z hg) Z) ?_)))))))))))
 refine js (jor Z Z) (ja Z (jn (jx (jrt ?_))))
 exact jrB Z Z (by rfl)
theorem Vi{a0:Value}{l:List Int}:Tv Tryz.prog 129 #[a0] [dv (rL (rI .i64)) a0 l] [] (.bool (Ij l)):=by
 refine Af (args:=[a0]) Tryz.func129 rfl rfl rfl fun w0 X=>?_
 refine jq (jr (ja Z (jn (jx (jq (jr (jm Z (jdq d0 fun q1 w1=>jcp JI Z Z (IC Rk t0 (fun x _=>Tr.it (QD x) i0)) (dc d0 (dc (db dn) dn)) kn p0 (js (Dv Z) (ja Z ?_))))))))))
 refine jn (jx (jrt ?_))
 exact jrB Z Z ((IA l).symm)
theorem QN{a0:Value}{i:D.Mach}:Tv Tryz.prog 134 #[vMach i a0] [da Al (vMach i a0) i] [] (.bool (Ke i)):=by
 refine Af (args:=[vMach i a0]) Tryz.func134 rfl rfl rfl fun w0 X=>?_
 refine cwr (Al.W_Imm d0) fun wim=>jq (jr (Bj Z Z fun g1=>ja Z (jn (jx (jq (jq (jr (js (jf Fk Z) (js (jl k0 O3 Z Z) ?_)))))))))
 refine jn (jx (jb (jq (jr (js (Aj Z Z) (ja Z (jn (jx ?_))))))))
 refine jif Z (fun hc1=>?_) (fun hc1=>?_)
 refine jq (jr (js (jf Lh Z) (js (jl k0 O21 Z Z) (jwr (Al.W_Imm d0) fun w1=>jcv S8 Z Z (C2 i.Imm 16 w1) dn kn (ja Z (jn (jx (jrt (jbr (jtr ?_))))))))))
 exact jrB Z Z (by(unfold Ke;(repeat rw[if_neg (by omega)])<;>(try rw[if_pos (by omega)])<;>first|rfl|exact(Hu wim 32 (by decide)).symm|exact(Hu wim 256 (by decide)).symm|(simp[*];done)|(simp;done)|(rw[Bool.decide_and];done)))
 refine jq (jq (jr (js (Aj Z Z) (ja Z (jn (jx ?_))))))
 refine jif Z (fun hc2=>?_) (fun hc2=>?_)
 refine jsk (jx ?_)
 refine jif Z (fun hc3=>?_) (fun hc3=>?_)
 refine jq (jr (js (jf Lh Z) (js (jl k0 O21 Z Z) (jwr (Al.W_Imm d0) fun w2=>jcv S8 Z Z (C2 i.Imm 8 w2) dn kn (ja Z (jn (jx (jrt (jbr (jtr ?_))))))))))
 exact jrB Z Z (by(unfold Ke;(repeat rw[if_neg (by omega)])<;>(try rw[if_pos (by omega)])<;>first|rfl|exact(Hu wim 32 (by decide)).symm|exact(Hu wim 256 (by decide)).symm|(simp[*];done)|(simp;done)|(rw[Bool.decide_and];done)))
 exact absurd hc3 (by simp[hc1,hc2])
 refine jr (js (Aj Z Z) (ja Z (jn (jx ?_))))
 refine jif Z (fun hc4=>?_) (fun hc4=>?_)
 refine jq (jr (js (jf Lh Z) (js (jl k0 O21 Z Z) (jwr (Al.W_Imm d0) fun w3=>jcv S8 Z Z (C2 i.Imm 8 w3) dn kn (ja Z (jn (jx (jrt (jbr (jtr ?_))))))))))
 exact jrB Z Z (by(unfold Ke;(repeat rw[if_neg (by omega)])<;>(try rw[if_pos (by omega)])<;>first|rfl|exact(Hu wim 32 (by decide)).symm|exact(Hu wim 256 (by decide)).symm|(simp[*];done)|(simp;done)|(rw[Bool.decide_and];done)))
 refine jq (jq (jr (js (Aj Z Z) (ja Z (jn (jx ?_))))))
 refine jif Z (fun hc5=>?_) (fun hc5=>?_)
 refine jsk (jx ?_)
 refine jif Z (fun hc6=>?_) (fun hc6=>?_)
 refine jq (jr (js (jf Lh Z) (js (jl k0 O21 Z Z) (js (jco U21 Jd Z Z) (js (Ai Z Z) (ja Z (jn (jx (jrt (jbr (jtr ?_)))))))))))
 exact jrB Z Z (by(unfold Ke;(repeat rw[if_neg (by omega)])<;>(try rw[if_pos (by omega)])<;>first|rfl|exact(Hu wim 32 (by decide)).symm|exact(Hu wim 256 (by decide)).symm|(simp[*];done)|(simp;done)|(rw[Bool.decide_and];done)))
 exact absurd hc6 (by simp[hc1,hc2,hc4,hc5])
 refine jq (jr (js (Aj Z Z) (ja Z (jn (jx ?_)))))
 refine jif Z (fun hc7=>?_) (fun hc7=>?_)
 refine jsk (jx ?_)
 refine jif Z (fun hc8=>?_) (fun hc8=>?_)
 refine jq (jr (js (jf Lh Z) (js (jl k0 O21 Z Z) (js (jco U21 Jd Z Z) (js (Ai Z Z) (ja Z (jn (jx (jrt (jbr (jtr ?_)))))))))))
 exact jrB Z Z (by(unfold Ke;(repeat rw[if_neg (by omega)])<;>(try rw[if_pos (by omega)])<;>first|rfl|exact(Hu wim 32 (by decide)).symm|exact(Hu wim 256 (by decide)).symm|(simp[*];done)|(simp;done)|(rw[Bool.decide_and];done)))
 exact absurd hc8 (by simp[hc1,hc2,hc4,hc5,hc7])
 refine jr (js (Aj Z Z) (ja Z (jn (jx ?_))))
 refine jif Z (fun hc9=>?_) (fun hc9=>?_)
 refine jq (jr (js (jf Lh Z) (js (jl k0 O21 Z Z) (js (jco U21 Jd Z Z) (js (Ai Z Z) (ja Z (jn (jx (jrt (jbr (jtr ?_)))))))))))
 exact jrB Z Z (by(unfold Ke;(repeat rw[if_neg (by omega)])<;>(try rw[if_pos (by omega)])<;>first|rfl|exact(Hu wim 32 (by decide)).symm|exact(Hu wim 256 (by decide)).symm|(simp[*];done)|(simp;done)|(rw[Bool.decide_and];done)))
 refine jq (jq (jr (js (Aj Z Z) (ja Z (jn (jx ?_))))))
 refine jif Z (fun hc10=>?_) (fun hc10=>?_)
 refine jsk (jx ?_)
 refine jif Z (fun hc11=>?_) (fun hc11=>?_)
 refine jq (jr (js (jf Lh Z) (js (jl k0 O21 Z Z) (js (jco U21 Jd Z Z) (js (Ai Z Z) (ja Z (jn (jx (jrt (jbr (jtr ?_)))))))))))
 exact jrB Z Z (by(unfold Ke;(repeat rw[if_neg (by omega)])<;>(try rw[if_pos (by omega)])<;>first|rfl|exact(Hu wim 32 (by decide)).symm|exact(Hu wim 256 (by decide)).symm|(simp[*];done)|(simp;done)|(rw[Bool.decide_and];done)))
 exact absurd hc11 (by simp[hc1,hc2,hc4,hc5,hc7,hc9,hc10])
 refine jr (js (Aj Z Z) (ja Z (jn (jx ?_))))
 refine jif Z (fun hc12=>?_) (fun hc12=>?_)
 refine jq (jr (js (jf Lh Z) (js (jl k0 O21 Z Z) (js (jco U21 Jd Z Z) (js (Ai Z Z) (ja Z (jn (jx (jrt (jbr (jtr ?_)))))))))))
 exact jrB Z Z (by(unfold Ke;(repeat rw[if_neg (by omega)])<;>(try rw[if_pos (by omega)])<;>first|rfl|exact(Hu wim 32 (by decide)).symm|exact(Hu wim 256 (by decide)).symm|(simp[*];done)|(simp;done)|(rw[Bool.decide_and];done)))
 refine jsk (jbn (jx (jq (jr (ja Z (jn (jx (jrt ?_))))))))
 exact jrB Z Z (by(unfold Ke;(repeat rw[if_neg (by omega)])<;>(try rw[if_pos (by omega)])<;>first|rfl|exact(Hu wim 32 (by decide)).symm|exact(Hu wim 256 (by decide)).symm|(simp[*];done)|(simp;done)|(rw[Bool.decide_and];done)))
theorem QM{a0:Value}{i:D.Mach}:Tv Tryz.prog 78 #[vMach i a0] [da Al (vMach i a0) i] [] (.int .i64 (Db i)):=by
 refine Af (args:=[vMach i a0]) Tryz.func78 rfl rfl rfl fun w0 X=>?_
 refine jq (jr (Bj Z Z fun g1=>ja Z (jn (jx (jq (jb (jq (jr (js (jf Fk Z) (js (jl k0 O3 Z Z) ?_))))))))))
 refine js (Ai Z Z) (jm Z (jg Z Z (.f _) (fun hg=>jf Fk Z) (jg Z Z (.f _) (fun hg=>jl k0 O3 (evg Z hg) Z) (jg Z Z (.f _) (fun hg=>Fi (evg Z hg) Z) (js (jor Z Z) (jm Z (jg Z Z (.f _) (fun hg=>jf Fk Z) (jg Z Z (.f _) (fun hg=>jl k0 O3 (evg Z hg) Z) (jg Z Z (.f _) (fun hg=>Aj (evg Z hg) Z) (js (jor Z Z) (jm Z ?_)))))))))))
 refine jg Z Z (.f _) (fun hg=>jf Fk Z) (jg Z Z (.f _) (fun hg=>jl k0 O3 (evg Z hg) Z) (jg Z Z (.f _) (fun hg=>Aj (evg Z hg) Z) (jg Z Z (.f _) (fun hg=>jmv (evg Z hg)) (jg Z Z (.gt _ _) (fun hg=>jf S2 Z) (jg Z Z (.gt _ _) (fun hg=>jl k0 O22 (evg Z hg) Z) (jdq (Al.c_Args d0) fun q1 w1=>jg Z Z (.gt _ _) (fun hg=>jln U22 (Al.c_Args d0) (evg Z hg)) (jg Z Z (.gt _ _) (fun hg=>Fi (evg Z hg) Z) (jg Z Z (.f _) (fun hg=>Tj hg Z Z) (js (jor Z Z) (ja Z ?_))))))))))
 refine jn (jx ?_)
 refine jif Z (fun hc1=>?_) (fun hc1=>?_)
 refine jq (jr (ja Z (jn (jx (jrt (jbr (jtr ?_)))))))
 exact jrI Z Z (by first|(unfold Db;rw[if_pos (by omega)];done)|(unfold Db;rw[if_neg (by omega)];simp[*];done)|(unfold Db;rw[if_neg (by omega)];simp[*];omega))
 refine jq (jr (js (jla k0 A24 Z24 Z Z Z) (jcd E88 Z Z CR (dc d0 dn) kn fun v30 q2 w2=>jcv Wm Z Z Vi (dc d0 dn) kn (js (Dv Z) (jm Z (jg Z Z (.f _) (fun hg=>jla k0 A24 Z24 Z Z Z) (UQ Z Z (.f _) E14 Z (fun hg=>Zf (evg Z hg)) (fun hg=>QC) (fun hg=>(dc d1 dn)) fun v35=>jgc Z Z (.f _) Wm Z (fun hg=>Zf (evg Z hg)) (fun hg=>Vi) (fun hg=>(dc (d0.on hg) dn)) kn p0 (jg Z Z (.f _) (fun hg=>Dv (evg Z hg)) (js (jor Z Z) ?_)))))))))
 refine ja Z (jn (jx ?_))
 refine jif Z (fun hc2=>?_) (fun hc2=>?_)
 refine jq (jr (ja Z (jn (jx (jrt (jbr (jtr ?_)))))))
 exact jrI Z Z (by first|(unfold Db;rw[if_pos (by omega)];done)|(unfold Db;rw[if_neg (by omega)];simp[*];done)|(unfold Db;rw[if_neg (by omega)];simp[*];omega))
 refine jq (jr (js (jf Fk Z) (js (jl k0 O3 Z Z) (js (Aj Z Z) (jm Z (jg Z Z (.t _) (fun hg=>jf Uo Z) (jg Z Z (.t _) (fun hg=>jl k0 O3 (evg Z hg) Z) (jg Z Z (.t _) (fun hg=>jf S3 Z) (jg Z Z (.t _) (fun hg=>jl k0 O3 (evg Z hg) Z) (jg Z Z (.t _) (fun hg=>Aj (evg Z hg) (evg Z hg)) (js (Cm Z Z) ?_)))))))))))
 refine ja Z (jn (jx ?_))
 refine jif Z (fun hc3=>?_) (fun hc3=>?_)
 refine jq (jr (ja Z (jn (jx (jrt (jbr (jtr ?_)))))))
 exact jrI Z Z (by first|(unfold Db;rw[if_pos (by omega)];done)|(unfold Db;rw[if_neg (by omega)];simp[*];done)|(unfold Db;rw[if_neg (by omega)];simp[*];omega))
 refine jq (jr (js (jla k0 A24 Z24 Z Z Z) (jcv z6 Z Z QN (dc d2 dn) kn (js (Dv Z) (ja Z (jn (jx ?_)))))))
 refine jif Z (fun hc4=>?_) (fun hc4=>?_)
 refine jq (jr (ja Z (jn (jx (jrt (jbr (jtr ?_)))))))
 exact jrI Z Z (by first|(unfold Db;rw[if_pos (by omega)];done)|(unfold Db;rw[if_neg (by omega)];simp[*];done)|(unfold Db;rw[if_neg (by omega)];simp[*];omega))
 refine jsk (jbn (jx (jq (jr (ja Z (jn (jx (jrt ?_))))))))
 exact jrI Z Z (by first|(unfold Db;rw[if_pos (by omega)];done)|(unfold Db;rw[if_neg (by omega)];simp[*];done)|(unfold Db;rw[if_neg (by omega)];simp[*];omega))
theorem QS(b:Int)(n:Int){g1:Nat}:Tr Tryz.prog 137 #[.int .i64 b,.pointer (some ⟨g1,0,none⟩)] [] [bx g1 3 [.int .i64 n]] (fun _:Unit => .bool ((Uh n) b)) (fun _=>[]) (fun _ _=>[bx g1 3 [.int .i64 n]]):=by
 refine Af (args:=[.int .i64 b,.pointer (some ⟨g1,0,none⟩)]) Tryz.func137 rfl rfl rfl fun w0 X=>?_
 refine jq (jr (ja Z (jn (jx (jq (jr (jm Z (js (Ai Z Z) (jm Z (jg Z Z (.f _) (fun hg=>jmv Z) (jg Z Z (.f _) (fun hg=>jl k0 O3 Z Z) ?_)))))))))))
 refine jg Z Z (.f _) (fun hg=>Eo (evg Z hg) (evg Z hg)) (js (jor Z Z) (ja Z (jn (jx (jrt ?_)))))
 exact jr1 Z Z () (congrArg Value.bool (Eq.symm (by rfl))) dn (fun _ _=>(kc k0 kn))
theorem QR{a0:Value}{e:D.End}(n:Int):Tv Tryz.prog 79 #[vEnd e a0,.int .i64 n] [da Bi (vEnd e a0) e] [] (.int .i64 (Fc e n)):=by
 refine Af (args:=[vEnd e a0,.int .i64 n]) Tryz.func79 rfl rfl rfl fun w0 X=>?_
 refine jq (jr (Bj Z Z fun g2=>Bj Z Z fun g3=>ja Z (jn (jx (jq (jr (jmm fun g8=>js (jbu (v := .agg #[.int .i64 1,.int .i64 1]) Z (fun _=>by kernel_rfl)) (jin Pc U3 k0 Z Z Z Z ?_))))))))
 refine js (jbu (v := .agg #[.int .i64 2,.int .i64 2]) Z (fun _=>by kernel_rfl)) (jin Pc U3 k0 Z Z Z Z (js (jbu (v := .agg #[.int .i64 2,.int .i64 2]) Z (fun _=>by kernel_rfl)) (jin Pc U3 k0 Z Z Z Z (js (jbu (v := .agg #[.int .i64 2,.int .i64 2]) Z (fun _=>by kernel_rfl)) (jin Pc U3 k0 Z Z Z Z (js (jbu (v := .agg #[.int .i64 2,.int .i64 2]) Z (fun _=>by kernel_rfl)) (jin Pc U3 k0 Z Z Z Z (js (jbu (v := .agg #[.int .i64 2,.int .i64 65]) Z (fun _=>by kernel_rfl)) (jin Pc U3 k0 Z Z Z Z (js (jbu (v := .agg #[.int .i64 0,.int .i64 0]) Z (fun _=>by kernel_rfl)) (jin Pc U3 k0 Z Z Z Z ?_)))))))))))
 refine js (jbu (v := .agg #[.int .i64 0,.int .i64 0]) Z (fun _=>by kernel_rfl)) (jin Pc U3 k0 Z Z Z Z (jm Z (ja Z (jn (jx (jq (jr (jm Z (js (jf Jt Z) (js (jl k2 O3 Z Z) ?_))))))))))
 refine jfk (p:=fun v=>(v = .tuple #[.agg #[.int .i64 (Lx e.Op),.int .i64 (Ly e.Op)],.bool true]∧1≤e.Op∧e.Op≤8)∨(v = .tuple #[.agg #[.int .i64 0,.int .i64 0],.bool false]∧¬(1≤e.Op∧e.Op≤8))) ⟨_,Ym Pc U3 R6 k0 Z Z,SW e.Op⟩ ?_
 rintro v22 (⟨rfl,hop⟩|⟨rfl,hop⟩)
 refine jm Z (js (Be Z Z) (js (Be Z Z) (Bg R6 Z fun g6=>Az k0 IG Z Z Z ⟨Z,Z,trivial⟩ (saf Z) (ja Z (jn (jx (jq (jb (jq (jr ?_))))))))))
 refine jm Z (js (Dv Z) (jm Z (jk Z Z (.f _) (jf Nz Z) (jk Z Z (.f _) (jl k3 O22 Z Z) (jdq (Bi.c_To d0) fun q1 w1=>jk Z Z (.f _) (jln U22 (Bi.c_To d0) Z) (jk Z Z (.f _) (Qx (i:=0) Zo Z3 Z Z Z (by omega)) (jk Z Z (.f _) (jl k0 O3 Z Z) (jk Z Z (.f _) (Ai Z Z) (js (jor Z Z) (jm Z ?_))))))))))
 refine jg Z Z (.f _) (fun hg=>jf Nz Z) (jg Z Z (.f _) (fun hg=>jl k3 O22 (evg Z hg) Z) (jg Z Z (.f _) (fun hg=>jln U22 (Bi.c_To d0) (evg Z hg)) (jg Z Z (.f _) (fun hg=>Qx (i:=1) Zo Z3 Z Z Z (by first|omega|(simp at hg;omega))) (jg Z Z (.f _) (fun hg=>jl k0 O3 (evg Z hg) Z) (jg Z Z (.f _) (fun hg=>Fi (evg Z hg) (evg Z hg)) (js (jor Z Z) (ja Z (jn (jx ?_)))))))))
 refine jif Z (fun hc1=>?_) (fun hc1=>?_)
 try simp only[false_or,true_and] at hc1
 refine jq (jr (ja Z (jn (jx (jrt (jbr (jtr ?_)))))))
 exact jrI Z Z (by first|(have ht:toM e=false:=(by unfold toM;simp only[decide_eq_false_iff_not];omega);unfold Fc;rw[if_pos ht];done)|(have ht:toM e=true:=(by unfold toM;simp only[decide_eq_true_eq];omega);unfold Fc;rw[if_neg (by rw[ht];decide)];simp[*];done))
 try simp only[false_or,true_and] at hc1
 refine jq (jr (js (jla k3 A88 Z88 Z Z Z) (jcd z5 Z Z QL (dc d0 dn) kn fun v46 q2 w2=>jcv Wm Z Z Vi (dc d0 dn) kn (js (Dv Z) (ja Z (jn (jx ?_)))))))
 refine jif Z (fun hc2=>?_) (fun hc2=>?_)
 refine jq (jr (ja Z (jn (jx (jrt (jbr (jtr ?_)))))))
 exact jrI Z Z (by first|(have ht:toM e=false:=(by unfold toM;simp only[decide_eq_false_iff_not];omega);unfold Fc;rw[if_pos ht];done)|(have ht:toM e=true:=(by unfold toM;simp only[decide_eq_true_eq];omega);unfold Fc;rw[if_neg (by rw[ht];decide)];simp[*];done))
 refine jq (jr (js (jf Nz Z) (js (jl k3 O22 Z Z) (js (Ou Z) (jcp JI Z Z (IC (Uh n) z4 (fun x _=>Tr.it (QS x n) i0)) (dc (Bi.c_To d1) (dc (db dn) dn)) (kc k2 kn) p1 (ja Z (jn (jx ?_))))))))
 refine jif Z (fun hc3=>?_) (fun hc3=>?_)
 refine jq (jr (ja Z (jn (jx (jrt (jbr (jtr ?_)))))))
 exact jrI Z Z (by first|(have ht:toM e=false:=(by unfold toM;simp only[decide_eq_false_iff_not];omega);unfold Fc;rw[if_pos ht];done)|(have ht:toM e=true:=(by unfold toM;simp only[decide_eq_true_eq];omega);unfold Fc;rw[if_neg (by rw[ht];decide)];simp[*];done))
 refine jsk (jbn (jx (jq (jr (ja Z (jn (jx (jrt ?_))))))))
 exact jrI Z Z (by first|(have ht:toM e=false:=(by unfold toM;simp only[decide_eq_false_iff_not];omega);unfold Fc;rw[if_pos ht];done)|(have ht:toM e=true:=(by unfold toM;simp only[decide_eq_true_eq];omega);unfold Fc;rw[if_neg (by rw[ht];decide)];simp[*];done))
 refine jm Z (js (Be Z Z) (js (Be Z Z) (Bg R6 Z fun g6_4=>Az k0 IG Z Z Z ⟨Z,Z,trivial⟩ (saf Z) (ja Z (jn (jx (jq (jb (jq (jr ?_))))))))))
 refine jm Z (js (Dv Z) (jm Z (jg Z Z (.f _) (fun hg=>jf Nz Z) (jg Z Z (.f _) (fun hg=>jl k3 O22 (evg Z hg) Z) (jdq (Bi.c_To d0) fun q5 w5=>jg Z Z (.f _) (fun hg=>jln U22 (Bi.c_To d0) (evg Z hg)) (jg Z Z (.f _) (fun hg=>Qx (i:=0) Zo Z3 Z Z Z (by first|omega|(simp at hg;omega))) (jg Z Z (.f _) (fun hg=>jl k0 O3 (evg Z hg) Z) (jg Z Z (.f _) (fun hg=>Ai (evg Z hg) (evg Z hg)) (js (jor Z Z) (jm Z ?_))))))))))
 refine jg Z Z (.f _) (fun hg=>jf Nz Z) (jg Z Z (.f _) (fun hg=>jl k3 O22 (evg Z hg) Z) (jg Z Z (.f _) (fun hg=>jln U22 (Bi.c_To d0) (evg Z hg)) (jg Z Z (.f _) (fun hg=>Qx (i:=1) Zo Z3 Z Z Z (by first|omega|(simp at hg;omega))) (jg Z Z (.f _) (fun hg=>jl k0 O3 (evg Z hg) Z) (jg Z Z (.f _) (fun hg=>Fi (evg Z hg) (evg Z hg)) (js (jor Z Z) (ja Z (jn (jx ?_)))))))))
 refine jif Z (fun hc4=>?_) (fun hc4=>?_)
 refine jq (jr (ja Z (jn (jx (jrt (jbr (jtr ?_)))))))
 exact jrI Z Z (by first|(have ht:toM e=false:=(by unfold toM;simp only[decide_eq_false_iff_not];omega);unfold Fc;rw[if_pos ht];done)|(have ht:toM e=true:=(by unfold toM;simp only[decide_eq_true_eq];omega);unfold Fc;rw[if_neg (by rw[ht];decide)];simp[*];done))
 exact absurd hc4 (by simp)
theorem Aa0:Ent Tryz.prog 130:=⟨_,Tryz.func130,by kernel_rfl,by kernel_rfl⟩
theorem z9:Ent Tryz.prog 131:=⟨_,Tryz.func131,by kernel_rfl,by kernel_rfl⟩
theorem z8:Ent Tryz.prog 132:=⟨_,Tryz.func132,by kernel_rfl,by kernel_rfl⟩
theorem z7:Ent Tryz.prog 133:=⟨_,Tryz.func133,by kernel_rfl,by kernel_rfl⟩
theorem Wl:Fld Tryz.prog 111 1 1:=⟨_,_,Tryz.underlying111,rfl,rfl,1,(by unfold Sz;kernel_rfl),by decide⟩
theorem Pf:Fld Tryz.prog 65 0 0:=⟨_,_,Tryz.underlying65,rfl,rfl,1,(by unfold Sz;kernel_rfl),by decide⟩
theorem Ld:Fld Tryz.prog 65 1 1:=⟨_,_,Tryz.underlying65,rfl,rfl,1,(by unfold Sz;kernel_rfl),by decide⟩
theorem O63:One Tryz.prog 63:=⟨_,Tryz.underlying63,rfl⟩
theorem QK{x:D.In}:Tv Tryz.prog 131 #[vIn x ()] [da rIn (vIn x ()) x] [] (.bool ((fun x:D.In=>!Ij [x.Val]) x)):=by
 refine Af (args:=[vIn x ()]) Tryz.func131 rfl rfl rfl fun w0 X=>?_
 refine jq (jr (Bj Z Z fun g1=>ja Z (jn (jx (jq (jr (js (jf Wl Z) (js (jl k0 O3 Z Z) (Ba (r:=(rI .i64)) (l:=[x.Val]) U22 I3 (by decide) Z Z Z (lV Z Z (wI (rIn.W_Val d0)) ln) fun g5=>jc Wm Z Z (Tv.temp 1073741824 Vi (by(try simp)<;>omega)) dn (kc k0 kn) (fun _=>p0) (fun _=>p1) fun _=>?_)))))))))
 refine js (Dv Z) (ja Z (jn (jx (jrt ?_))))
 exact jrB Z Z (by rfl)
theorem QJ{a0:Value}{x:D.Phi}{d:Int}{c:Value}{g1:Nat}:Tr Tryz.prog 133 #[vPhi x a0,.pointer (some ⟨g1,0,none⟩)] [da As (vPhi x a0) x] [bx g1 65 [.int .i64 d,c]] (fun _:Unit => .bool ((fun(d:Int) (x:D.Phi)=>decide (x.Dst=d)) d x)) (fun _=>[]) (fun _ _=>[bx g1 65 [.int .i64 d,c]]):=by
 refine Af (args:=[vPhi x a0,.pointer (some ⟨g1,0,none⟩)]) Tryz.func133 rfl rfl rfl fun w0 X=>?_
 refine jq (jr (Bj Z Z fun g2=>ja Z (jn (jx (jq (jr (js (jf Pf Z) (js (jl k0 O3 Z Z) (js (jf Pf Z) (js (jl k1 O3 Z Z) ?_))))))))))
 refine js (Aj Z Z) (ja Z (jn (jx (jrt ?_))))
 exact jr1 Z Z () (congrArg Value.bool (Eq.symm (by rfl))) dn (fun _ _=>(kc k1 kn))
theorem QG{a0:Value}{p:D.Phi}{a1:Value}{ahead:List D.Phi}:Tv Tryz.prog 77 #[vPhi p a0,a1] [da As (vPhi p a0) p,dv (rL As) a1 ahead] [] (.int .i64 (Lv p ahead)):=by
 refine Af (args:=[vPhi p a0,a1]) Tryz.func77 rfl rfl rfl fun w0 X=>?_
 refine jq (jr (Bj Z Z fun g2=>ja Z (jn (jx (jq (jq (jr (js (jf Pf Z) (js (jl k0 O3 Z Z) (Ba (r:=(rI .i64)) (l:=[p.Dst]) U22 I3 (by decide) Z Z Z (lV Z Z (wI (As.W_Dst d0)) ln) fun g7=>?_))))))))))
 refine jc Wm Z Z (Tv.temp 1073741824 Vi (by(try simp)<;>omega)) dn (kc k0 kn) (fun _=>p0) (fun _=>p1) fun _=>js (Dv Z) (jm Z (jg Z Z (.f _) (fun hg=>jf Ld Z) (jg Z Z (.f _) (fun hg=>jl k1 O63 (evg Z hg) Z) (jdq (As.c_In d0) fun q1 w1=>UP Z Z (.f _) Aa0 Z (fun hg=>Pw (evg Z hg) Z) (fun hg=>(f9 (fun x:D.In=>!Ij [x.Val]) z9 (fun x _ c=>Tr.it QK ir))) (fun hg=>(dc (As.c_In d0) (dc (db dn) dn))) kn p0 (js (jor Z Z) (jn (jx ?_)))))))
 refine jif Z (fun hc1=>?_) (fun hc1=>?_)
 refine jq (jr (ja Z (jn (jx (jrt (jtr ?_))))))
 exact jrI Z Z (by unfold Lv;simp[*];done)
 refine jsk (jx (jq (jq (jr (jm Z (js (Ou Z) (jdq d1 fun q2 w2=>jcp z8 Z Z (f7 (fun x:D.Phi=>decide (x.Dst=p.Dst)) z7 (fun x _ c=>Tr.it QJ ir)) (dc d1 (dc (db dn) dn)) (kc k1 kn) p1 (jn (jx ?_)))))))))
 refine jif Z (fun hc2=>?_) (fun hc2=>?_)
 refine jq (jr (ja Z (jn (jx (jrt (jtr ?_))))))
 exact jrI Z Z (by unfold Lv;simp[*];done)
 refine jsk (jx (jq (jr (ja Z (jn (jx (jrt ?_)))))))
 exact jrI Z Z (by unfold Lv;simp[*];done)
abbrev Fj:=@Tryz.underlying129
abbrev U4:=@Tryz.underlying4
theorem y9:Ent Tryz.prog 141:=⟨_,Tryz.func141,by kernel_rfl,by kernel_rfl⟩
theorem JB:Ent Tryz.prog 176:=⟨_,Tryz.func176,by kernel_rfl,by kernel_rfl⟩
theorem Ur:Fld Tryz.prog 111 0 0:=⟨_,_,Tryz.underlying111,rfl,rfl,1,(by unfold Sz;kernel_rfl),by decide⟩
theorem O4:One Tryz.prog 4:=⟨_,Tryz.underlying4,rfl⟩
theorem Z4:Sz Tryz.prog 4 1:=by unfold Sz;kernel_rfl
theorem R7:(Tryz.prog.info? 111).bind (·.zero)=some (.agg #[.int .i64 0,.int .i64 0]):=by kernel_rfl
def Hl(bs:List D.MBlock)(k:Nat)(b:Int):List Int:=((List.range k).filter (fun a:Nat=>decide (b∈(ix bs a).End.To))).map (fun a:Nat=>(a:Int))
def Qr(bs:List D.MBlock)(b:Int):List Int:=Hl bs bs.length b
theorem OY(bs:List D.MBlock)(k:Nat)(b:Int):Hl bs (k+1) b=Hl bs k b++if b∈(ix bs k).End.To then [(k:Int)] else []:=by
 unfold Hl
 rw[List.range_succ,List.filter_append,List.map_append]
 congr 1
 by_cases h:b∈(ix bs k).End.To<;>simp[h]
theorem OZ(bs:List D.MBlock)(k:Nat)(b:Int):∀x∈Hl bs k b,x<k:=by
 intro x hx
 unfold Hl at hx
 obtain⟨a,ha,rfl⟩:=List.mem_map.1 hx
 have:=List.mem_range.1 (List.mem_filter.1 ha).1
 omega
theorem BD(bs:List D.MBlock)(k:Nat)(b:Int):(Hl bs k b).length≤k:=by
 unfold Hl
 rw[List.length_map]
 exact Nat.le_trans (List.length_filter_le _ _) (by simp)
def Ga(bs:List D.MBlock)(k j:Nat)(b:Int):List Int:=Hl bs k b++if b∈(ix bs k).End.To.take j then [(k:Int)] else []
theorem PA(bs:List D.MBlock)(k:Nat)(b:Int):Ga bs k 0 b=Hl bs k b:=by simp[Ga]
theorem PG(bs:List D.MBlock)(k j:Nat)(b:Int)(h:(ix bs k).End.To.length≤j):Ga bs k j b=Hl bs (k+1) b:=by
 rw[OY];unfold Ga;rw[List.take_of_length_le h]
theorem PE(bs:List D.MBlock)(k j:Nat)(b:Int):(Ga bs k j b).length≤k+1:=by
 have:=BD bs k b
 unfold Ga;rw[List.length_append];split<;>simp<;>omega
theorem BE(bs:List D.MBlock)(k j:Nat)(b:Int):(k:Int)∈Ga bs k j b↔b∈(ix bs k).End.To.take j:=by
 unfold Ga
 rw[List.mem_append]
 constructor
 ·rintro(h|h)
  ·have:=OZ bs k b _ h;omega
  ·split at h
   ·assumption
   ·cases h
 ·intro h;rw[if_pos h];exact .inr (by simp)
theorem PC{bs:List D.MBlock}{k j:Nat}(hj:j<(ix bs k).End.To.length)(h:(k:Int)∈Ga bs k j (ix (ix bs k).End.To j))(b:Int):Ga bs k (j+1) b=Ga bs k j b:=by
 rw[BE] at h
 unfold Ga
 rw[Ff hj]
 by_cases h1:b∈(ix bs k).End.To.take j
 ·rw[if_pos (by simp[h1]),if_pos h1]
 ·have h2:b≠ix (ix bs k).End.To j:=by rintro rfl;exact h1 h
  rw[if_neg (by simp[h1,h2]),if_neg h1]
theorem PD{bs:List D.MBlock}{k j:Nat}(hj:j<(ix bs k).End.To.length)(h:¬(k:Int)∈Ga bs k j (ix (ix bs k).End.To j))(b:Int) :
  Ga bs k (j+1) b=if b=ix (ix bs k).End.To j then Ga bs k j b++[(k:Int)] else Ga bs k j b:=by
 rw[BE] at h
 unfold Ga
 rw[Ff hj]
 by_cases h1:b=ix (ix bs k).End.To j
 ·subst h1;rw[if_pos (by simp),if_neg h,if_pos rfl];simp
 ·rw[if_neg h1]
  by_cases h2:b∈(ix bs k).End.To.take j
  ·rw[if_pos (by simp[h2]),if_pos h2]
  ·rw[if_neg (by simp[h1,h2]),if_neg h2]
def El:List Bool→List Int→List Int→List Bool×List Int
 | seen,q,[]=>(seen,q)
 | seen,q,t::ts=>if ix seen t.toNat=true then El seen q ts else El (seen.set t.toNat true) (q++[t]) ts
def bfs(bs:List D.MBlock):Nat→List Bool→List Int→List Bool
 | 0,seen,_=>seen
 | _+1,seen,[]=>seen
 | f+1,seen,x::q=>bfs bs f (El seen (x::q) (ix bs x.toNat).End.To).1 ((El seen (x::q) (ix bs x.toNat).End.To).2.drop 1)
def Ik(bs:List D.MBlock):List Bool:=bfs bs bs.length ((List.replicate bs.length false).set 0 true) [0]
def Lb(l:List Bool):Nat:=l.countP (fun x=>!x)
theorem Zj{l:List Bool}{i:Nat}(hi:i<l.length)(h:¬ix l i=true):Lb (l.set i true)+1=Lb l:=by
 unfold Lb
 have h2:l[i]=false:=by rw[←Bn hi];simpa using h
 rw[List.countP_set hi]
 have:0<l.countP (fun x=>!x):=List.countP_pos_iff.2 ⟨_,List.getElem_mem hi,by simp[h2]⟩
 simp[h2];omega
def Ir(bs:List D.MBlock)(b:Nat)(p:D.Phi):Bool:=decide (b=0)||!decide (p.In.map (·.From)=Qr bs b)
def Gc(bs:List D.MBlock):Nat→List D.MBlock→Int×Int×Int
 | _,[]=>(0,0,0)
 | b,x::l=>match x.Phis.findIdx? (Ir bs b) with
  | some i=>(16,b,-1-i)
  | none=>Gc bs (b+1) l
def Jm(m:D.MFunc):Int×Int×Int:=if 0≤Di (Ik m.Blocks) (fun x=>false==x) then (15,Di (Ik m.Blocks) (fun x=>false==x),0) else Gc m.Blocks 0 m.Blocks
def Mu(a:List D.In)(b:List Int):Bool:=decide (a.map (·.From)=b)
theorem XW{a:List D.In}{b:List Int}(h:¬a.length=b.length):Mu a b=false:=by simp only[Mu,decide_eq_false_iff_not];intro h1;have:=congrArg List.length h1;simp at this;omega
theorem XY{a:List D.In}{b:List Int}{k:Nat}(h1:k<a.length)(h2:a.length=b.length)(h:¬(ix a k).From=ix b k):Mu a b=false:=by
 simp only[Mu,decide_eq_false_iff_not]
 rintro rfl
 rw[Bn h1,Bn (by simpa using h1)] at h
 simp at h
theorem XV{a:List D.In}{b:List Int}{k:Nat}(h1:a.length≤k)(h2:a.length=b.length)(h:(a.take k).map (·.From)=b.take k):Mu a b=true:=by
 rw[List.take_of_length_le h1,List.take_of_length_le (by omega)] at h
 simp[Mu,h]
def Rb(l:List Int)(x:Int):Bool:=decide (x∈l)
theorem WX(l:List Int)(x:Int):decide (0≤Di l (fun y=>decide (x=y)))=Rb l x:=by
 rw[Vw];unfold Hq Rb
 rw[Bool.eq_iff_iff,List.any_eq_true,decide_eq_true_eq]
 constructor
 ·rintro⟨y,hy,h⟩;simp at h;subst h;exact hy
 ·intro h;exact⟨x,h,by simp⟩
section
variable{bs:List D.MBlock}{k j n:Nat}{ls:List (List Int)}
theorem X3(hj:j<(ix bs k).End.To.length)(hls:∀b:Nat,b<n→ls.getD b []=Ga bs k j b)(ht:0≤ix (ix bs k).End.To j∧ix (ix bs k).End.To j<n)(h:Rb (ls.getD (ix (ix bs k).End.To j).toNat []) k=true) :
  ∀b:Nat,b<n→ls.getD b []=Ga bs k (j+1) b:=by
 intro b hb
 have h1:=hls (ix (ix bs k).End.To j).toNat (by omega)
 rw[show(((ix (ix bs k).End.To j).toNat:Nat):Int)=ix (ix bs k).End.To j by omega] at h1
 unfold Rb at h;rw[h1,decide_eq_true_eq] at h
 rw[PC hj h];exact hls b hb
theorem X4(hj:j<(ix bs k).End.To.length)(hls:∀b:Nat,b<n→ls.getD b []=Ga bs k j b)(ht:0≤ix (ix bs k).End.To j∧ix (ix bs k).End.To j<n)(hl:ls.length=n)(h:Rb (ls.getD (ix (ix bs k).End.To j).toNat []) k=false) :
  ∀b:Nat,b<n→(ls.set (ix (ix bs k).End.To j).toNat (ls.getD (ix (ix bs k).End.To j).toNat []++[(k:Int)])).getD b []=Ga bs k (j+1) b:=by
 intro b hb
 have h1:=hls (ix (ix bs k).End.To j).toNat (by omega)
 rw[show(((ix (ix bs k).End.To j).toNat:Nat):Int)=ix (ix bs k).End.To j by omega] at h1
 unfold Rb at h;rw[h1,decide_eq_false_iff_not] at h
 rw[PD hj h]
 by_cases e1:b=(ix (ix bs k).End.To j).toNat
 ·subst e1
  rw[if_pos (by omega),h1,show(((ix (ix bs k).End.To j).toNat:Nat):Int)=ix (ix bs k).End.To j by omega]
  have:(ix (ix bs k).End.To j).toNat<ls.length:=by omega
  simp[List.getD,this]
 ·rw[if_neg (by omega),←hls b hb]
  simp[List.getD,List.getElem?_set_ne (Ne.symm e1)]
theorem NE(hl:ls.length=n)(hn:n<1073741824)(hls:∀b:Nat,b<n→ls.getD b []=Hl bs k b)(hk:k≤n):∀l∈ls,l.length<1073741824:=by
 intro l hm
 obtain⟨i,hi,rfl⟩:=List.mem_iff_getElem.1 hm
 have h1:=hls i (by omega)
 rw[List.getD,List.getElem?_eq_getElem hi] at h1
 simp only[Option.getD_some] at h1
 rw[h1]
 have:=BD bs k i
 omega
theorem NJ(hn:n<1073741824)(hls:∀b:Nat,b<n→ls.getD b []=Ga bs k j b)(hk:k<n){t:Nat}(ht:t<n):(ls.getD t []).length<1073741825:=by
 rw[hls t ht];have:=PE bs k j t;omega
theorem ZN(hn:0<n):Lb ((List.replicate n false).set 0 true)+[(0:Int)].length≤n:=by
 have:=Zj (l:=List.replicate n false) (i:=0) (by simpa using hn) (by rw[Bn (by simpa using hn)];simp)
 have h2:Lb (List.replicate n false)=n:=by unfold Lb;rw[List.countP_replicate];rfl
 simp only[List.length_cons,List.length_nil];omega
theorem b6(f:Nat)(se:List Bool):bfs bs f se []=se:=by cases f<;>rfl
theorem ZZ{f:Nat}{se:List Bool}{q:List Int}(hf:0<f)(hq:0<q.length):bfs bs f se q=bfs bs (f-1) (El se q (ix bs (ix q 0).toNat).End.To).1 ((El se q (ix bs (ix q 0).toNat).End.To).2.drop 1):=by
 obtain⟨f,rfl⟩:∃g,f=g+1:=⟨f-1,by omega⟩
 match q,hq with
 | x::q,_=>rfl
theorem PR{l:List D.MBlock}(hk:k<l.length){i:Nat}(hi:i<(ix l k).Phis.length)(hG:Gc bs 0 l=Gc bs k (l.drop k))(hno:∀p∈(ix l k).Phis.take i,Ir bs k p=false)(h:Ir bs k (ix (ix l k).Phis i)=true):Gc bs 0 l=(16,(k:Int),-1-(i:Int)):=by
 rw[hG,Dz hk,Gc]
 have:=Tn hi hno h
 unfold Di at this
 split at this
 ·rename_i a ha;(try rw[ha]);have:a=i:=by omega
  subst this;rfl
 ·omega
theorem PQ{l:List D.MBlock}(hk:k<l.length){i:Nat}(hi:(ix l k).Phis.length≤i)(hG:Gc bs 0 l=Gc bs k (l.drop k))(hno:∀p∈(ix l k).Phis.take i,Ir bs k p=false):Gc bs 0 l=Gc bs (k+1) (l.drop (k+1)):=by
 rw[hG,Dz hk,Gc]
 rw[List.take_of_length_le hi] at hno
 rw[List.findIdx?_eq_none_iff.2 hno]
end
def WM(l:List Int)(x:Int):Int:=Di l (fun y=>decide (x=y))
theorem WL{a0:Value}{l:List Int}{N0:Nat}(x:Int):Tv Tryz.prog 176 #[a0,.int .i64 x] [dv (rLn N0 (rI .i64)) a0 l] [] (.int .i64 (WM l x)):=by
 refine Af (args:=[a0,.int .i64 x]) Tryz.func176 rfl rfl rfl fun w0 X=>?_
 refine jq (jr (ja Z (jn (jx (jq (jq (jr (jm Z (jdq d0 fun q1 w1=>js (jln U22 d0 Z) (jm Z ?_))))))))))
 refine jn (jx (jb ?_))
 refine jlp (fun(k:Nat)=>⟨k≤l.length∧(∀y∈l.take k,decide (x=y)=false),[dv (rLn N0 (rI .i64)) a0 l],[],[(0,a0),(1,.int .i64 x),(7,.int .i64 (↑l.length)),(8,.int .i64 (↑k))],l.length-k⟩) 0 ⟨by omega,by simp⟩ (dc d0 dn) kn ⟨Z,Z,Z,eqI (by omega),trivial⟩ ?_
 rintro k;dsimp only;rintro⟨hk,hR⟩
 refine jq (jr (js (Ai Z Z) (jn (jx (jq ?_)))))
 refine jif Z (fun hc1=>?_) (fun hc1=>?_)
 refine jsk (jx (jq (jb (jq (jr (jm Z (ja Z (jn (jx (jq (jr ?_)))))))))))
 refine jm Z (jm Z (jm Z (js (jix U22 Z3 d0 Z Z Z (by omega)) (js (jlI (dix d0 k (by omega)) O3 Z) (js (Aj Z Z) (jn (jx ?_)))))))
 refine jif Z (fun hc2=>?_) (fun hc2=>?_)
 refine jq (jr (jm Z (ja Z (jn (jx (jrt (jbr (jtr (jtr (jbr (jtr ?_)))))))))))
 exact jrI Z Z (Tn (q:=fun y=>decide (x=y)) (by omega) hR (decide_eq_true hc2))
 refine jsk (jbn (jx (jr (js (Ac Z Z (by omega)) (jm Z (jn ?_))))))
 exact jag (k+1) ⟨by omega,Sw (q:=fun y=>decide (x=y)) (by omega) hR (decide_eq_false hc2)⟩ (dc d0 dn) kn ⟨Z,Z,Z,eqI (by omega),trivial⟩
 refine jex (jtx (jtx (jbh (jx (jq (jr (ja Z (jn (jx (jrt ?_))))))))))
 exact jrI Z Z (Vv (q:=fun y=>decide (x=y)) (by omega) hR)
def Pu(l:List Bool)(x:Bool):Int:=Di l (fun y=>(x==y))
theorem WP{a0:Value}{l:List Bool}{N0:Nat}(x:Bool):Tv Tryz.prog 139 #[a0,.bool x] [dv (rLn N0 rB) a0 l] [] (.int .i64 (Pu l x)):=by
 refine Af (args:=[a0,.bool x]) Tryz.func139 rfl rfl rfl fun w0 X=>?_
 refine jq (jr (ja Z (jn (jx (jq (jq (jr (jm Z (jdq d0 fun q1 w1=>js (jln Fj d0 Z) (jm Z ?_))))))))))
 refine jn (jx (jb ?_))
 refine jlp (fun(k:Nat)=>⟨k≤l.length∧(∀y∈l.take k,(x==y)=false),[dv (rLn N0 rB) a0 l],[],[(0,a0),(1,.bool x),(7,.int .i64 (↑l.length)),(8,.int .i64 (↑k))],l.length-k⟩) 0 ⟨by omega,by simp⟩ (dc d0 dn) kn ⟨Z,Z,Z,eqI (by omega),trivial⟩ ?_
 rintro k;dsimp only;rintro⟨hk,hR⟩
 refine jq (jr (js (Ai Z Z) (jn (jx (jq ?_)))))
 refine jif Z (fun hc1=>?_) (fun hc1=>?_)
 refine jsk (jx (jq (jb (jq (jr (jm Z (ja Z (jn (jx (jq (jr ?_)))))))))))
 refine jm Z (jm Z (jm Z (js (jix Fj Z4 d0 Z Z Z (by omega)) (js (jlB (dix d0 k (by omega)) O4 Z) (js (UV U4 Z Z) (jn (jx ?_)))))))
 refine jif Z (fun hc2=>?_) (fun hc2=>?_)
 refine jq (jr (jm Z (ja Z (jn (jx (jrt (jbr (jtr (jtr (jbr (jtr ?_)))))))))))
 exact jrI Z Z (Tn (q:=fun y=>(x==y)) (by omega) hR hc2)
 refine jsk (jbn (jx (jr (js (Ac Z Z (by omega)) (jm Z (jn ?_))))))
 exact jag (k+1) ⟨by omega,Sw (q:=fun y=>(x==y)) (by omega) hR hc2⟩ (dc d0 dn) kn ⟨Z,Z,Z,eqI (by omega),trivial⟩
 refine jex (jtx (jtx (jbh (jx (jq (jr (ja Z (jn (jx (jrt ?_))))))))))
 exact jrI Z Z (Vv (q:=fun y=>(x==y)) (by omega) hR)
theorem WW{a0:Value}{l:List Int}{N0:Nat}(x:Int):Tv Tryz.prog 138 #[a0,.int .i64 x] [dv (rLn N0 (rI .i64)) a0 l] [] (.bool (Rb l x)):=by
 refine Af (args:=[a0,.int .i64 x]) Tryz.func138 rfl rfl rfl fun w0 X=>?_
 refine jq (jr (ja Z (jn (jx (jq (jr (jm Z (jm Z (jdq d0 fun q1 w1=>jcv JB Z Z (WL x) (dc d0 dn) kn (js (Eo Z Z) ?_))))))))))
 refine ja Z (jn (jx (jrt ?_)))
 exact jrB Z Z ((WX l x).symm)
theorem QP{x:D.In}(y:Int):Tv Tryz.prog 141 #[vIn x (),.int .i64 y] [da rIn (vIn x ()) x] [] (.bool ((fun(x:D.In) (y:Int)=>decide (x.From=y)) x y)):=by
 refine Af (args:=[vIn x (),.int .i64 y]) Tryz.func141 rfl rfl rfl fun w0 X=>?_
 refine jq (jr (Bj Z Z fun g2=>ja Z (jn (jx (jq (jr (js (jf Ur Z) (js (jl k0 O3 Z Z) (jm Z (js (Aj Z Z) ?_))))))))))
 refine ja Z (jn (jx (jrt ?_)))
 exact jrB Z Z (by rfl)
theorem XX{a0:Value}{a:List D.In}{a1:Value}{b:List Int}:Tv Tryz.prog 140 #[a0,a1,.func (.func 141) #[] #[]] [dv (rL rIn) a0 a,dv (rL (rI .i64)) a1 b] [] (.bool (Mu a b )):=by
 refine Af (args:=[a0,a1,.func (.func 141) #[] #[]]) Tryz.func140 rfl rfl rfl fun w0 X=>?_
 refine jq (jr (ja Z (jn (jx (jq (jq (jr (jm Z (jdq d0 fun q1 w1=>js (jln U63 d0 Z) (jm Z ?_))))))))))
 refine jdq d1 fun q2 w2=>js (jln U22 d1 Z) (js (Gz Z Z) (jn (jx ?_)))
 refine jif Z (fun hc1=>?_) (fun hc1=>?_)
 refine jq (jr (ja Z (jn (jx (jrt (jtr ?_))))))
 exact jrB Z Z (XW (by omega))
 refine jsk (jx (jq (jq (jr (jm Z (js (jln U63 d0 Z) (jm Z (jn (jx (jb ?_))))))))))
 refine jlp (fun(k:Nat)=>⟨k≤a.length∧(a.take k).map (·.From)=b.take k,[dv (rL rIn) a0 a,dv (rL (rI .i64)) a1 b],[],[(1,a1),(2,.func (.func 141) #[] #[]),(15,a0),(16,.int .i64 (↑a.length)),(17,.int .i64 (↑k))],a.length-k⟩) 0 ⟨by omega,rfl⟩ (dc d0 (dc d1 dn)) kn ⟨Z,Z,Z,Z,eqI (by omega),trivial⟩ ?_
 rintro k;dsimp only;rintro⟨hk,hR⟩
 refine jq (jr (js (Ai Z Z) (jn (jx (jq ?_)))))
 refine jif Z (fun hc2=>?_) (fun hc2=>?_)
 refine jsk (jx (jq (jb (jq (jr (jm Z (js (jix U63 Jr d0 Z Z Z (by omega)) (jA sIn (jlA (dix d0 k (by omega)) Ws Jr Z) fun _=>Bg R7 Z fun g8=>ja Z (Az k0 Jr Z Z Z ⟨Z,Z,trivial⟩ (saf Z) ?_)))))))))
 refine jn (jx (jq (jr (jm Z (jm Z (js (jix U22 Z3 d2 Z Z Z (by omega)) (js (jlI (dix d2 k (by omega)) O3 Z) (ja Z (jn (jx (jq ?_)))))))))))
 refine jr (jm Z (js (jla k0 Ws Jr Z Z Z) (jm Z (jcv y9 Z Z (QP (ix b k)) (dc d0 dn) kn (js (Dv Z) (jn (jx ?_)))))))
 refine jif Z (fun hc3=>?_) (fun hc3=>?_)
 refine jq (jr (ja Z (jn (jx (jrt (jbr (jtr (jtr (jbr (jtr ?_))))))))))
 exact jrB Z Z (XY (k:=k) (by omega) (by omega) hc3)
 refine jsk (jbn (jx (jr (js (Ac Z Z (by omega)) (jm Z (jn ?_))))))
 exact jag (k+1) ⟨by omega,by rw[Ff (by omega),Ff (by omega),List.map_append,hR];simp[hc3]⟩ (dc d1 (dc d2 dn)) kn ⟨Z,Z,Z,Z,eqI (by omega),trivial⟩
 refine jex (jtx (jtx (jbh (jx (jq (jr (ja Z (jn (jx (jrt ?_))))))))))
 exact jrB Z Z (XV (k:=k) (by omega) (by omega) hR)
abbrev Dd:=@Tryz.underlying125
abbrev U26:=@Tryz.underlying26
theorem A95:Ag9 Tryz.prog 95:=⟨_,Tryz.underlying95,rfl⟩
theorem JH:Ent Tryz.prog 138:=⟨_,Tryz.func138,by kernel_rfl,by kernel_rfl⟩
theorem z3:Ent Tryz.prog 139:=⟨_,Tryz.func139,by kernel_rfl,by kernel_rfl⟩
theorem z2:Ent Tryz.prog 140:=⟨_,Tryz.func140,by kernel_rfl,by kernel_rfl⟩
theorem Lg:Fld Tryz.prog 28 1 1:=⟨_,_,Tryz.underlying28,rfl,rfl,1,(by unfold Sz;kernel_rfl),by decide⟩
theorem Ro:Fld Tryz.prog 95 0 0:=⟨_,_,Tryz.underlying95,rfl,rfl,1,(by unfold Sz;kernel_rfl),by decide⟩
theorem Pe:Fld Tryz.prog 95 2 2:=⟨_,_,Tryz.underlying95,rfl,rfl,5,(by unfold Sz;kernel_rfl),by decide⟩
theorem I22:(Tryz.prog.info? 22).map (fun i=>(i.zero,i.size,i.bytes))=some (some (.slice none 0 0),1,24):=by kernel_rfl
theorem I4:(Tryz.prog.info? 4).map (fun i=>(i.zero,i.size,i.bytes))=some (some (.bool false),1,1):=by kernel_rfl
theorem O26:One Tryz.prog 26:=⟨_,Tryz.underlying26,rfl⟩
theorem O57:One Tryz.prog 57:=⟨_,Tryz.underlying57,rfl⟩
theorem Z22:Sz Tryz.prog 22 1:=by unfold Sz;kernel_rfl
theorem Z95:Sz Tryz.prog 95 7:=by unfold Sz;kernel_rfl
theorem J65:(Tryz.prog.info? 65).bind (·.zero)=some (.agg #[.int .i64 0,.slice none 0 0]):=by kernel_rfl
theorem J95:(Tryz.prog.info? 95).bind (·.zero)=some (.agg #[.slice none 0 0,.slice none 0 0,.int .i64 0,.int .i64 0,.int .i64 0,.slice none 0 0,.int .i32 0]):=by kernel_rfl
theorem P7{bs:List D.MBlock}{ls:List (List Int)}{k:Nat}{p:D.Phi}(hk:k<bs.length)(hls:∀b:Nat,b<bs.length→ls.getD b []=Hl bs bs.length b)(h:(k:Int)=0∨Mu p.In (ix ls k)=false):Ir bs k p=true:=by
 have h1:ix ls k=Qr bs k:=hls k hk
 unfold Ir
 rcases h with h|h
 ·rw[decide_eq_true (by omega)];rfl
 ·rw[h1] at h;unfold Mu at h;rw[h];simp
theorem b7{bs:List D.MBlock}{ls:List (List Int)}{k:Nat}{p:D.Phi}(hk:k<bs.length)(hls:∀b:Nat,b<bs.length→ls.getD b []=Hl bs bs.length b)(h:¬(k:Int)=0∧Mu p.In (ix ls k)=true):Ir bs k p=false:=by
 have h1:ix ls k=Qr bs k:=hls k hk
 unfold Ir
 obtain⟨h,h2⟩:=h
 rw[h1] at h2;unfold Mu at h2;rw[h2,decide_eq_false (by omega)];rfl
section
variable{m:D.MFunc}{f:Nat}{se:List Bool}{q:List Int}
theorem FN(hb:Ik m.Blocks=bfs m.Blocks f se q)(hq:q=[]):Ik m.Blocks=se:=by rw[hb,hq,b6]
theorem M3(hb:Ik m.Blocks=bfs m.Blocks f se q)(hq:q=[])(h:0≤Pu se false):Jm m=(15,Pu se false,0):=by
 unfold Jm;rw[FN hb hq];unfold Pu at h ⊢;rw[if_pos h]
theorem FQ(hb:Ik m.Blocks=bfs m.Blocks f se q)(hq:q=[])(h:¬0≤Pu se false):Jm m=Gc m.Blocks 0 m.Blocks:=by
 unfold Jm;rw[FN hb hq];unfold Pu at h;rw[if_neg h]
theorem M2(hb:Ik m.Blocks=bfs m.Blocks f se q)(hq:q=[])(h:¬0≤Pu se false){k i:Nat}(hk:k<m.Blocks.length)(hi:i<(ix m.Blocks k).Phis.length)(hG:Gc m.Blocks 0 m.Blocks=Gc m.Blocks k (m.Blocks.drop k))(hno:∀p∈(ix m.Blocks k).Phis.take i,Ir m.Blocks k p=false)(h2:Ir m.Blocks k (ix (ix m.Blocks k).Phis i)=true):Jm m=(16,(k:Int),-1-(i:Int)):=by
 rw[FQ hb hq h];exact PR hk hi hG hno h2
theorem M4(hb:Ik m.Blocks=bfs m.Blocks f se q)(hq:q=[])(h:¬0≤Pu se false){k:Nat}(hk:m.Blocks.length≤k)(hG:Gc m.Blocks 0 m.Blocks=Gc m.Blocks k (m.Blocks.drop k)):Jm m=(0,0,0):=by
 rw[FQ hb hq h,hG,List.drop_of_length_le hk];rfl
end
theorem QO{a0:Value}{m:D.MFunc}(hn:0<m.Blocks.length)(hT:∀x∈m.Blocks,∀t∈x.End.To,1≤t∧t<m.Blocks.length):Tv Tryz.prog 80 #[vMFunc m a0] [da Bo (vMFunc m a0) m] [] (.tuple #[.int .i64 ((Jm m).1),.int .i64 ((Jm m).2.1),.int .i64 ((Jm m).2.2)]):=by
 refine Af (args:=[vMFunc m a0]) Tryz.func80 rfl rfl rfl fun w0 X=>?_
 refine jq (jr (Bj Z Z fun g1=>ja Z (ja Z (ja Z (jn (jx (jq (jr (js (jf Lg Z) (js (jl k0 O26 Z Z) ?_))))))))))
 refine jdq (Bo.cB d0) fun q1 w1=>js (jln U26 (Bo.cB d0) Z) (jmk (m:=(List.length m.Blocks)) (r:=rV) Dd I22 Z Z Z Z Z (by omega) (wV Z) Z fun g22=>jrn (r:=(rI .i64)) (T:=3) (List.length m.Blocks) (ja Z (jn (jx (jq (jr (js (jf Lg Z) (js (jl k2 O26 Z Z) (js (jln U26 (Bo.cB d0) Z) ?_)))))))))
 refine jmk (m:=(List.length m.Blocks)) (r:=rB) Fj I4 Z Z Z Z Z (by omega) wB Z fun g26=>ja Z (jn (jx (jq (jq (jr (js (jf Lg Z) (js (jl k3 O26 Z Z) (js (jln U26 (Bo.cB d0) Z) (jm Z (jn ?_))))))))))
 refine jx (jb ?_)
 refine jlp (u3 fun(k:Nat) (vs:List Value) (ls:List (List Int))=>⟨k≤m.Blocks.length∧vs.length=m.Blocks.length∧ls.length=m.Blocks.length∧(∀b:Nat,b<m.Blocks.length→ls.getD b []=Hl m.Blocks k b),[da Bo (vMFunc m a0) m],[gl X.n rB 4 (.slice (some ⟨g26,0,none⟩) (List.length m.Blocks) (List.length m.Blocks)) (List.replicate (List.length m.Blocks) false),rw' X.n (rI .i64) 3 vs ls,gl X.n rV 22 (.slice (some ⟨g22,0,none⟩) (List.length m.Blocks) (List.length m.Blocks)) vs,bx g1 28 [.int .i64 m.Params,a0]],[(1,.pointer (some ⟨g1,0,none⟩)),(2,.int .i64 0),(3,.int .i64 0),(4,.int .i64 0),(5,(.slice (some ⟨g22,0,none⟩) (List.length m.Blocks) (List.length m.Blocks))),(6,(.slice (some ⟨g26,0,none⟩) (List.length m.Blocks) (List.length m.Blocks))),(28,a0),(29,.int .i64 (↑(List.length m.Blocks))),(30,.int .i64 (↑k))],m.Blocks.length-k⟩) (0,List.replicate (List.length m.Blocks) (.slice none 0 0),List.replicate (List.length m.Blocks) []) ⟨by dsimp only;omega,by simp,by simp,by intro b hb;simp[Hl,List.getD,hb]⟩ (dc d0 dn) (kd (kd kn)) ⟨Z,Z,Z,Z,Z,Z,Z,Z,eqI (by omega),trivial⟩ ?_
 rintro⟨k,vs,ls⟩;dsimp only[u3];rintro⟨hk,hv,hl,hls⟩
 refine jq (jr (js (Ai Z Z) (jn (jx (jq ?_)))))
 refine jif Z (fun hc1=>?_) (fun hc1=>?_)
 refine jsk (jx (jq (jb (jq (jr (jm Z (js (jix U26 Z95 (Bo.cB d0) Z Z Z (by omega)) (jA3 Vc (jlA (dix (Bo.cB d0) k (by omega)) A95 Z95 Z) fun c34a c34b c34c=>Bg J95 Z fun g8=>ja Z (jdq (Av.cP d0) fun q3 w3=>?_)))))))))
 refine jdq (Av.cI d0) fun q4 w4=>jdq (Av.cT d0) fun q5 w5=>Az k0 Z95 Z Z Z ⟨w3.one,w4.one,Z,Z,Z,w5.one,Z,trivial⟩ (saf Z) (jn (jx (jq (jr (js (jf Pe Z) (js (jf Nz Z) (js (jl k0 O22 Z Z) (js (jln U22 (Av.cT d0) Z) (jm Z ?_)))))))))
 refine jn (jx (jb ?_))
 refine jlp (u3 fun(j:Nat) (vs2:List Value) (ls2:List (List Int))=>⟨j≤(ix m.Blocks k).End.To.length∧vs2.length=m.Blocks.length∧ls2.length=m.Blocks.length∧(∀b:Nat,b<m.Blocks.length→ls2.getD b []=Ga m.Blocks k j b),[da Av (vMBlock (ix m.Blocks k) (c34a,c34b,c34c)) (ix m.Blocks k),da Bo (vMFunc m a0) m],[gl X.n rB 4 (.slice (some ⟨g26,0,none⟩) (List.length m.Blocks) (List.length m.Blocks)) (List.replicate (List.length m.Blocks) false),rw' X.n (rI .i64) 3 vs2 ls2,gl X.n rV 22 (.slice (some ⟨g22,0,none⟩) (List.length m.Blocks) (List.length m.Blocks)) vs2,bx g1 28 [.int .i64 m.Params,a0]],[(1,.pointer (some ⟨g1,0,none⟩)),(2,.int .i64 0),(3,.int .i64 0),(4,.int .i64 0),(5,(.slice (some ⟨g22,0,none⟩) (List.length m.Blocks) (List.length m.Blocks))),(6,(.slice (some ⟨g26,0,none⟩) (List.length m.Blocks) (List.length m.Blocks))),(7,.int .i64 (↑k)),(28,a0),(29,.int .i64 (↑(List.length m.Blocks))),(30,.int .i64 (↑k)),(37,c34c),(38,.int .i64 (↑(List.length (((ix m.Blocks k).End).To)))),(39,.int .i64 (↑j))],(ix m.Blocks k).End.To.length-j⟩) (0,vs,ls) ⟨by dsimp only;omega,hv,hl,by dsimp only;intro b hb;rw[PA];exact hls b hb⟩ (dc d0 (dc d1 dn)) (kc k1 (kc k1 (kc k1 (kc k1 kn)))) ⟨Z,Z,Z,Z,Z,Z,Z,Z,Z,Z,Z,Z,eqI (by omega),trivial⟩ ?_
 rintro⟨j,vs2,ls2⟩;dsimp only[u3];rintro⟨hj,hv2,hl2,hls2⟩
 refine jq (jr (js (Ai Z Z) (jn (jx (jq ?_)))))
 refine jif Z (fun hc2=>?_) (fun hc2=>?_)
 have htj:=hT _ (Ax (l:=m.Blocks) (i:=k) (by omega)) _ (Ax (l:=(ix m.Blocks k).End.To) (i:=j) (by omega))
 have hrl:=NJ (by omega) hls2 (by omega) (show(ix (ix m.Blocks k).End.To j).toNat<m.Blocks.length by omega)
 refine jsk (jx (jq (jb (jq (jr (js (jix U22 Z3 (Av.cT d0) Z Z Z (by omega)) (js (jlI (dix (Av.cT d0) j (by omega)) O3 Z) (ja Z (jn (jx (jq ?_)))))))))))
 refine jr (jm Z (jm Z (js (jig (i:=(Int.toNat (ix (((ix m.Blocks k).End).To) j))) Dd Z22 k2 Z Z (by omega) (by omega)) (js (jgW k2 (by omega) O22 Z) (jm Z (jro (Int.toNat (ix (((ix m.Blocks k).End).To) j)) k1 (by omega) (by omega) (jgo k0 fun w7=>jc JH Z Z (Tv.temp 4294967296 (WW ↑k) (by omega)) dn (kc k0 kn) (fun _=>p0) (fun _=>p1) fun _=>jrx k0 k0 (by omega) (by omega) (js (Dv Z) (jn ?_)))))))))
 refine jx ?_
 refine jif Z (fun hc3=>?_) (fun hc3=>?_)
 refine jr (jm Z (jm Z (jm Z (jm Z (js (jig (i:=(Int.toNat (ix (((ix m.Blocks k).End).To) j))) Dd Z22 k2 Z Z (by omega) (by omega)) (js (jgW k2 (by omega) O22 Z) (jm Z (jro (Int.toNat (ix (((ix m.Blocks k).End).To) j)) k0 (by omega) (by omega) (jgo k0 fun w9=>Hz U22 I3 (by decide) Z Z k0 Z (wI (wp (IntWalk.i64_in _ (by omega)))) (by omega) (fun _=>Z) fun v58 _ w10=>js (jig (i:=(Int.toNat (ix (((ix m.Blocks k).End).To) j))) Dd Z22 k3 Z Z (by omega) (by omega)) ?_)))))))))
 refine jsg k3 Z Z22 Z Z w10.one (by omega) (wV w10.one) (jru k1 k1 (by omega) (by omega) (jn (jbn (jx (jr (js (Ac Z Z (by omega)) (jm Z (jn ?_))))))))
 exact jag (j+1,List.set vs2 (Int.toNat (ix (((ix m.Blocks k).End).To) j)) v58,List.set ls2 (Int.toNat (ix (((ix m.Blocks k).End).To) j)) ((List.getD ls2 (Int.toNat (ix (((ix m.Blocks k).End).To) j)) [])++[((k:Nat):Int)])) ⟨by dsimp only;omega,by dsimp only;first|exact hv2|(rw[List.length_set];exact hv2),by dsimp only;first|exact hl2|(rw[List.length_set];exact hl2),by dsimp only;first|exact X3 (by omega) hls2 (by omega) hc3|exact X4 (by omega) hls2 (by omega) hl2 hc3⟩ (dc d0 (dc d1 dn)) (kc k2 (kd (kc k0 kn))) ⟨Z,Z,Z,Z,Z,Z,Z,Z,Z,Z,Z,Z,eqI (by omega),trivial⟩
 refine jsk (jbn (jx (jr (js (Ac Z Z (by omega)) (jm Z (jn ?_))))))
 exact jag (j+1,vs2,ls2) ⟨by dsimp only;omega,by dsimp only;first|exact hv2|(rw[List.length_set];exact hv2),by dsimp only;first|exact hl2|(rw[List.length_set];exact hl2),by dsimp only;first|exact X3 (by omega) hls2 (by omega) hc3|exact X4 (by omega) hls2 (by omega) hl2 hc3⟩ (dc d0 (dc d1 dn)) (kc k1 (kd (kc k0 kn))) ⟨Z,Z,Z,Z,Z,Z,Z,Z,Z,Z,Z,Z,eqI (by omega),trivial⟩
 refine jex (jtx (jtx (jbh (jbn (jx (jr (js (Ac Z Z (by omega)) (jm Z (jn ?_)))))))))
 exact jag (k+1,vs2,ls2) ⟨by dsimp only;omega,by dsimp only;exact hv2,by dsimp only;exact hl2,by dsimp only;intro b hb;rw[hls2 b hb,PG _ _ _ _ (by omega)]⟩ (dc d1 dn) (kd (kd kn)) ⟨Z,Z,Z,Z,Z,Z,Z,Z,eqI (by omega),trivial⟩
 refine jex (jtx (jtx (jbh (jx (jq (cfr k2 k1 (by omega) (by omega) (NE hl (by omega) hls hk) (jr (jm Z (js (jig (i:=0) Fj Z4 k0 Z Z Z (by rw[Sy];omega)) (jsg k0 Z Z4 Z Z Z (by rw[Sy];omega) wB (jn ?_)))))))))))
 refine jx (jq (jq (jr (Ba (r:=(rI .i64)) (l:=[0]) U22 I3 (by decide) Z Z Z (lV Z Z (wI (wl 0)) ln) fun g64=>ja Z (jn (jx (jb (jgw k0 Z (by simp) ?_))))))))
 refine jlp (u4 fun(f:Nat) (se:List Bool) (q:List Int) (vq:Value)=>⟨Ik m.Blocks=bfs m.Blocks f se q∧Lb se+q.length≤f∧f≤m.Blocks.length∧se.length=m.Blocks.length∧(∀x∈q,0≤x∧x<m.Blocks.length),[dv (rL (rL (rI .i64))) (.slice (some ⟨g22,0,none⟩) (List.length m.Blocks) (List.length m.Blocks)) ls,da Bo (vMFunc m a0) m],[wn X.n (rI .i64) 3 vq q,gl X.n rB 4 (.slice (some ⟨g26,0,none⟩) (List.length m.Blocks) (List.length m.Blocks)) se,bx g1 28 [.int .i64 m.Params,a0]],[(1,.pointer (some ⟨g1,0,none⟩)),(2,.int .i64 0),(3,.int .i64 0),(4,.int .i64 0),(5,(.slice (some ⟨g22,0,none⟩) (List.length m.Blocks) (List.length m.Blocks))),(6,(.slice (some ⟨g26,0,none⟩) (List.length m.Blocks) (List.length m.Blocks))),(11,vq)],f⟩) (m.Blocks.length,List.set (List.replicate (List.length m.Blocks) false) 0 true,[0],(.slice (some ⟨g64,0,none⟩) 1 1)) ⟨rfl,ZN hn,Nat.le_refl _,by simp,by simp;omega⟩ (dc d0 (dc d1 dn)) (kd (kc k0 kn)) ⟨Z,Z,Z,Z,Z,Z,Z,trivial⟩ ?_
 rintro⟨f,se,q,vq⟩;dsimp only[u4];rintro⟨hb,hcn,hfn,hse,hq⟩
 refine cgw k0 fun w12=>jq (jq (jr (jm Z (js (jlw U22 k0 Z) (js (Fi Z Z) (jn (jx ?_)))))))
 refine jif Z (fun hc4=>?_) (fun hc4=>?_)
 have hq1:=hq _ (Ax (l:=q) (i:=0) (by omega))
 refine jsk (jx (jq (jb (jq (Jj Bh (by kernel_rfl) (jt (jf Lg Z) (jt (jl k2 O26 Z Z) (jt (jmv Z) (jt (jiw (i:=0) U22 Z3 k0 Z Z Z (by omega)) (jt (jwI k0 (by omega) O3 Z) (jt (jix (i:=(Int.toNat (ix q 0))) U26 Z95 (Bo.cB d1) Z Z (by omega) (by omega)) ?_)))))))))))
 refine jt (jf Pe Z) (jt (jf Nz Z) (jtv (jlV (Bi.A_To (Av.A_End (dix (Bo.cB d1) (Int.toNat (ix q 0)) (by omega)))) O22 Z Z) fun v78 q13 w13=>jt (jln U22 d0 Z) (jt (jmv Z) (jdn (jx (jb ?_))))))
 refine jlp (u4 fun(j:Nat) (se2:List Bool) (q2:List Int) (vq2:Value)=>⟨j≤(ix m.Blocks (Int.toNat (ix q 0))).End.To.length∧El se2 q2 ((ix m.Blocks (Int.toNat (ix q 0))).End.To.drop j)=El se q (ix m.Blocks (Int.toNat (ix q 0))).End.To∧Lb se2+q2.length=Lb se+q.length∧se2.length=m.Blocks.length∧(∀x∈q2,0≤x∧x<m.Blocks.length)∧0<q2.length,[dv (rL (rI .i64)) v78 (((ix m.Blocks (Int.toNat (ix q 0))).End).To),dv (rL (rL (rI .i64))) (.slice (some ⟨g22,0,none⟩) (List.length m.Blocks) (List.length m.Blocks)) ls,da Bo (vMFunc m a0) m],[wn X.n (rI .i64) 3 vq2 q2,gl X.n rB 4 (.slice (some ⟨g26,0,none⟩) (List.length m.Blocks) (List.length m.Blocks)) se2,bx g1 28 [.int .i64 m.Params,a0]],[(1,.pointer (some ⟨g1,0,none⟩)),(2,.int .i64 0),(3,.int .i64 0),(4,.int .i64 0),(5,(.slice (some ⟨g22,0,none⟩) (List.length m.Blocks) (List.length m.Blocks))),(6,(.slice (some ⟨g26,0,none⟩) (List.length m.Blocks) (List.length m.Blocks))),(11,vq2),(78,v78),(79,.int .i64 (↑(List.length (((ix m.Blocks (Int.toNat (ix q 0))).End).To)))),(80,.int .i64 (↑j))],(ix m.Blocks (Int.toNat (ix q 0))).End.To.length-j⟩) (0,se,q,vq) ⟨by dsimp only;omega,rfl,rfl,hse,hq,by dsimp only;omega⟩ (dc d0 (dc d1 (dc d2 dn))) (kd (kc k0 kn)) ⟨Z,Z,Z,Z,Z,Z,Z,Z,Z,eqI (by omega),trivial⟩ ?_
 rintro⟨j,se2,q2,vq2⟩;dsimp only[u4];rintro⟨hj,hIn,hcn2,hse2,hq2,hq0⟩
 refine cgw k0 fun w15=>jq (jr (js (Ai Z Z) (jn (jx (jq ?_)))))
 refine jif Z (fun hc5=>?_) (fun hc5=>?_)
 have htq:=hT _ (Ax (l:=m.Blocks) (i:=Int.toNat (ix q 0)) (by omega)) _ (Ax (l:=(ix m.Blocks (Int.toNat (ix q 0))).End.To) (i:=j) (by omega))
 refine jsk (jx (jq (jb (jq (jr (js (jix U22 Z3 d0 Z Z Z (by omega)) (js (jlI (dix d0 j (by omega)) O3 Z) (ja Z (jn (jx (jq ?_)))))))))))
 refine jr (jm Z (jm Z (js (jig (i:=(Int.toNat (ix (((ix m.Blocks (Int.toNat (ix q 0))).End).To) j))) Fj Z4 k1 Z Z (by omega) (by omega)) (js (jgB k1 (by omega) O4 Z) (js (Dv Z) (jn (jx ?_)))))))
 refine jif Z (fun hc6=>?_) (fun hc6=>?_)
 refine jq (jr (jm Z (jm Z (js (jig (i:=(Int.toNat (ix (((ix m.Blocks (Int.toNat (ix q 0))).End).To) j))) Fj Z4 k1 Z Z (by omega) (by omega)) (jsg k1 Z Z4 Z Z Z (by omega) wB (jn (jx (jr (jm Z (jm Z (Ba (r:=(rI .i64)) (l:=[ix (((ix m.Blocks (Int.toNat (ix q 0))).End).To) j]) U22 I3 (by decide) Z Z Z (lV Z Z (wI (wad (dix d0 j (by omega)))) ln) fun g94=>?_)))))))))))
 refine jaw U22 I3 (by decide) Z Z k2 k0 Z Z (by omega) fun v95 w16=>ja Z (jn (jbn (jx (jr (js (Ac Z Z (by omega)) (jm Z (jn ?_)))))))
 exact jag (j+1,List.set se2 (Int.toNat (ix (((ix m.Blocks (Int.toNat (ix q 0))).End).To) j)) true,q2++[ix (((ix m.Blocks (Int.toNat (ix q 0))).End).To) j],v95) ⟨by dsimp only;omega,by dsimp only;rw[←hIn,Dz (l:=(ix m.Blocks (Int.toNat (ix q 0))).End.To) (i:=j) (by omega)];simp only[El];rw[if_neg (by rw[hc6];decide)],by dsimp only;have h9:=Zj (l:=se2) (i:=Int.toNat (ix (ix m.Blocks (Int.toNat (ix q 0))).End.To j)) (by omega) (by rw[hc6];decide);rw[List.length_append];simp;omega,by dsimp only;rw[List.length_set];exact hse2,by dsimp only;intro x hx9;rcases List.mem_append.1 hx9 with h9|h9;(· exact hq2 x h9);(simp at h9;subst h9;omega),by dsimp only;rw[List.length_append];simp⟩ (dc d0 (dc d1 (dc d2 dn))) (kd (kc k0 kn)) ⟨Z,Z,Z,Z,Z,Z,Z,Z,Z,eqI (by omega),trivial⟩
 refine jsk (jbn (jx (jr (js (Ac Z Z (by omega)) (jm Z (jn ?_))))))
 exact jag (j+1,se2,q2,vq2) ⟨by dsimp only;omega,by dsimp only;rw[←hIn,Dz (l:=(ix m.Blocks (Int.toNat (ix q 0))).End.To) (i:=j) (by omega)];simp only[El];rw[if_pos hc6],hcn2,hse2,hq2,hq0⟩ (dc d0 (dc d1 (dc d2 dn))) (kd (kc k0 kn)) ⟨Z,Z,Z,Z,Z,Z,Z,Z,Z,eqI (by omega),trivial⟩
 refine jex (jtx (jtx (jbh (jbn (jx (jr (jm Z (jsw (lo:=1) U22 Z3 k0 Z Z Z (by omega) fun v69 w17=>ja Z (jn ?_)))))))))
 exact jag (f-1,se2,List.drop 1 q2,v69) ⟨by dsimp only;rw[hb,ZZ (by omega) (by omega),←hIn,List.drop_of_length_le (by omega)];rfl,by dsimp only;rw[List.length_drop];omega,by dsimp only;omega,hse2,by dsimp only;intro x hx9;exact hq2 x (List.mem_of_mem_drop hx9)⟩ (dc d1 (dc d2 dn)) (kd (kc k0 kn)) ⟨Z,Z,Z,Z,Z,Z,Z,trivial⟩
 have hq9:q=[]:=List.eq_nil_of_length_eq_zero (by omega)
 refine jex (jtx (jtx (jbh (jx (jq (jq (jr (jm Z (jc z3 Z Z (Tv.temp 4294967296 (WP false) (by omega)) dn (kc k1 kn) (fun _=>p0) (fun _=>p1) fun _=>ja Z (jn ?_))))))))))
 refine jx (jq (jr (jm Z (js (Eo Z Z) (jn (jx ?_))))))
 refine jif Z (fun hc7=>?_) (fun hc7=>?_)
 refine jq (jr (jm Z (ja Z (ja Z (ja Z (jn (jx (jrt (jtr ?_)))))))))
 exact jr3 Z Z Z Z () (Ni (by first|exact M3 hb hq9 hc7|exact M2 hb hq9 hc7 (by omega) (by omega) hG hno (P7 (by omega) hls hc10)|exact M4 hb hq9 hc7 (by omega) hG)) dn (fun _ _=>kn)
 rw[show k=m.Blocks.length by omega] at hls
 refine jsk (jx (jq (jq (jr (js (jf Lg Z) (js (jl k2 O26 Z Z) (js (jln U26 (Bo.cB d1) Z) (jm Z (jn (jx (jb ?_)))))))))))
 refine jlp (fun(k5:Nat)=>⟨k5≤m.Blocks.length∧Gc m.Blocks 0 m.Blocks=Gc m.Blocks k5 (m.Blocks.drop k5),[dv (rL (rL (rI .i64))) (.slice (some ⟨g22,0,none⟩) (List.length m.Blocks) (List.length m.Blocks)) ls,da Bo (vMFunc m a0) m],[],[(5,(.slice (some ⟨g22,0,none⟩) (List.length m.Blocks) (List.length m.Blocks))),(103,a0),(104,.int .i64 (↑(List.length m.Blocks))),(105,.int .i64 (↑k5))],m.Blocks.length-k5⟩) 0 ⟨by omega,rfl⟩ (dc d0 (dc d1 dn)) kn ⟨Z,Z,Z,eqI (by omega),trivial⟩ ?_
 rintro k5;dsimp only;rintro⟨hk5,hG⟩
 refine jq (jr (js (Ai Z Z) (jn (jx (jq ?_)))))
 refine jif Z (fun hc8=>?_) (fun hc8=>?_)
 refine jsk (jx (jq (jb (jq (jr (jm Z (js (jix U26 Z95 (Bo.cB d1) Z Z Z (by omega)) (jA3 Vc (jlA (dix (Bo.cB d1) k5 (by omega)) A95 Z95 Z) fun c109a c109b c109c=>Bg J95 Z fun g16=>ja Z (jdq (Av.cP d0) fun q19 w19=>?_)))))))))
 refine jdq (Av.cI d0) fun q20 w20=>jdq (Av.cT d0) fun q21 w21=>Az k0 Z95 Z Z Z ⟨w19.one,w20.one,Z,Z,Z,w21.one,Z,trivial⟩ (saf Z) (jn (jx (jq (jr (js (jf Ro Z) (js (jl k0 O57 Z Z) (js (jln U57 (Av.cP d0) Z) (jm Z (jn ?_)))))))))
 refine jx (jb ?_)
 refine jlp (fun(i6:Nat)=>⟨i6≤(ix m.Blocks k5).Phis.length∧(∀p∈(ix m.Blocks k5).Phis.take i6,Ir m.Blocks k5 p=false),[da Av (vMBlock (ix m.Blocks k5) (c109a,c109b,c109c)) (ix m.Blocks k5),dv (rL (rL (rI .i64))) (.slice (some ⟨g22,0,none⟩) (List.length m.Blocks) (List.length m.Blocks)) ls,da Bo (vMFunc m a0) m],[],[(5,(.slice (some ⟨g22,0,none⟩) (List.length m.Blocks) (List.length m.Blocks))),(15,.int .i64 (↑k5)),(103,a0),(104,.int .i64 (↑(List.length m.Blocks))),(105,.int .i64 (↑k5)),(111,c109a),(112,.int .i64 (↑(List.length ((ix m.Blocks k5).Phis)))),(113,.int .i64 (↑i6))],(ix m.Blocks k5).Phis.length-i6⟩) 0 ⟨by omega,by simp⟩ (dc d0 (dc d1 (dc d2 dn))) kn ⟨Z,Z,Z,Z,Z,Z,Z,eqI (by omega),trivial⟩ ?_
 rintro i6;dsimp only;rintro⟨hi6,hno⟩
 refine jq (jr (js (Ai Z Z) (jn (jx (jq ?_)))))
 refine jif Z (fun hc9=>?_) (fun hc9=>?_)
 refine jsk (jx (jq (jb (jq (jr (jm Z (js (jix U57 Z65 (Av.cP d0) Z Z Z (by omega)) (jA Oi (jlA (dix (Av.cP d0) i6 (by omega)) A65 Z65 Z) fun c117=>Bg J65 Z fun g18=>ja Z (jdq (As.c_In d0) fun q23 w23=>?_)))))))))
 refine Az k0 Z65 Z Z Z ⟨Z,w23.one,trivial⟩ (saf Z) (jn (jx (jq (Cp false (.a 0 (.a 1 (.a 2 (.a 3 (.a 4 (.a 5 (.a 6 (.a 7 (.a 8 (.o 9 (.a 10 (.a 11 .e)))))))))))) Bh (by kernel_rfl) (kc k0 kn) fun F24=>jy Z (jmv Z) (jy Z (Aj Z Z) (jy Z (jmv Z) (jyg Z Z Z (.f _) (fun hg=>jf Ld Z) (jyg Z Z Z (.f _) (fun hg=>jl k0 O63 (evg Z hg) Z) (jyg Z Z Z (.f _) (fun hg=>jmv Z) (jyg Z Z Z (.f _) (fun hg=>jmv Z) ?_))))))))))
 refine adq d2 fun q25 w25=>jyg Z Z Z (.f _) (fun hg=>jix Dd Z22 d2 (evg Z hg) (evg Z hg) Z (by first|omega|(simp at hg;omega)|(simp only[List.length_set];omega)|(simp;done))) (UB (q:=fun v=>dv (rL (rI .i64)) v (ix ls k5)) Z Z Z (.f _) (fun hg=>xlV (dix d2 k5 (by first|omega|(simp at hg;omega)|(simp only[List.length_set];omega)|(simp;done))) O22 Z (evg Z hg)) fun v126=>jyo Z (jgc Z Z (.f _) z2 Z (fun hg=>Ze (evg Z hg) (evg Z hg) Z) (fun hg=>XX) (fun hg=>(dc (As.c_In d2) (dc (d1.on hg) dn))) kn p0 (jyn d0 (kc k0 kn) (jyg Z Z Z (.f _) (fun hg=>Dv (evg Z hg)) (jy Z (jor Z Z) (jyd (jx ?_)))))))
 refine jif Z (fun hc10=>?_) (fun hc10=>?_)
 refine jq (jr (jm Z (jm Z (js (Gg Z Z (by omega)) (ja Z (ja Z (ja Z (jn (jx (jrt (jbr ?_)))))))))))
 refine jtr (jtr (jbr (jbr (jtr (jtr (jbr (jtr ?_)))))))
 exact jr3 Z Z Z Z () (Ni (by first|exact M3 hb hq9 hc7|exact M2 hb hq9 hc7 (by omega) (by omega) hG hno (P7 (by omega) hls hc10)|exact M4 hb hq9 hc7 (by omega) hG)) dn (fun _ _=>kn)
 refine jsk (jbn (jx (jr (js (Ac Z Z (by omega)) (jm Z (jn ?_))))))
 exact jag (i6+1) ⟨by omega,Sw (by omega) hno (b7 (by omega) hls hc10)⟩ (dc d3 (dc d4 (dc d5 dn))) kn ⟨Z,Z,Z,Z,Z,Z,Z,eqI (by omega),trivial⟩
 refine jex (jtx (jtx (jbh (jbn (jx (jr (js (Ac Z Z (by omega)) (jm Z (jn ?_)))))))))
 exact jag (k5+1) ⟨by omega,PQ (by omega) (by omega) hG hno⟩ (dc d1 (dc d2 dn)) kn ⟨Z,Z,Z,eqI (by omega),trivial⟩
 refine jex (jtx (jtx (jbh (jx (jq (jr (ja Z (ja Z (ja Z (jn (jx ?_)))))))))))
 refine jrt ?_
 exact jr3 Z Z Z Z () (Ni (by first|exact M3 hb hq9 hc7|exact M2 hb hq9 hc7 (by omega) (by omega) hG hno (P7 (by omega) hls hc10)|exact M4 hb hq9 hc7 (by omega) hG)) dn (fun _ _=>kn)
abbrev U93:=@Tryz.underlying93
theorem A28:Ag9 Tryz.prog 28:=⟨_,Tryz.underlying28,rfl⟩
theorem E38:Ent Tryz.prog 38:=⟨_,Tryz.func38,by kernel_rfl,by kernel_rfl⟩
theorem E77:Ent Tryz.prog 77:=⟨_,Tryz.func77,by kernel_rfl,by kernel_rfl⟩
theorem E78:Ent Tryz.prog 78:=⟨_,Tryz.func78,by kernel_rfl,by kernel_rfl⟩
theorem E79:Ent Tryz.prog 79:=⟨_,Tryz.func79,by kernel_rfl,by kernel_rfl⟩
theorem E80:Ent Tryz.prog 80:=⟨_,Tryz.func80,by kernel_rfl,by kernel_rfl⟩
theorem S1:Fld Tryz.prog 28 0 0:=⟨_,_,Tryz.underlying28,rfl,rfl,1,(by unfold Sz;kernel_rfl),by decide⟩
theorem Wg:Fld Tryz.prog 95 1 1:=⟨_,_,Tryz.underlying95,rfl,rfl,1,(by unfold Sz;kernel_rfl),by decide⟩
theorem O93:One Tryz.prog 93:=⟨_,Tryz.underlying93,rfl⟩
theorem Z28:Sz Tryz.prog 28 2:=by unfold Sz;kernel_rfl
theorem J24:(Tryz.prog.info? 24).bind (·.zero)=some (.agg #[.int .i64 0,.int .i64 0,.int .i64 0,.int .i64 0,.int .i64 0,.int .i64 0,.int .i32 0,.slice none 0 0]):=by kernel_rfl
def Fa:Nat→List D.Mach→Option (Int×Int)
 | _,[]=>none
 | i,y::l=>if Db y=0 then Fa (i+1) l else some (Db y,(i:Int))
def Et(all:List D.Phi):Nat→List D.Phi→Option (Int×Int)
 | _,[]=>none
 | i,p::l=>if Lv p (all.take i)=0 then Et all (i+1) l else some (Lv p (all.take i),-1-(i:Int))
def Mx(n:Int)(x:D.MBlock):Option (Int×Int) :=
 match Et x.Phis 0 x.Phis with
 | some t=>some t
 | none=>match Fa 0 x.Ins with
  | some t=>some t
  | none=>if Fc x.End n=0 then none else some (Fc x.End n,(x.Ins.length:Int))
def Eb(n:Int):Nat→List D.MBlock→Option (Int×Int×Int)
 | _,[]=>none
 | b,x::l=>match Mx n x with
  | some t=>some (t.1,(b:Int),t.2)
  | none=>Eb n (b+1) l
def Kh:List D.MBlock→Int
 | []=>0
 | x::l=>x.Phis.length+x.Ins.length+1+Kh l
def Hn(m:D.MFunc):Int×Int×Int :=
 if m.Params<0∨4<m.Params then (1,0,0)
 else if m.Blocks.length=0 then (14,0,0)
 else if 512<m.Blocks.length∨16384<Kh m.Blocks then (2,0,0)
 else match Eb m.Blocks.length 0 m.Blocks with
  | some t=>t
  | none=>Jm m
def Nn(m:D.MFunc):Bool:=decide ((Hn m).1=0)
section
variable{n:Int}{bs:List D.MBlock}{k i:Nat}
theorem Jh{P:List D.Phi}(hi:P.length≤i)(h:Et P 0 P=Et P i (P.drop i)):Et P 0 P=none:=by rw[h,List.drop_of_length_le hi];rfl
theorem Ps{P:List D.Mach}(hi:P.length≤i)(h:Fa 0 P=Fa i (P.drop i)):Fa 0 P=none:=by rw[h,List.drop_of_length_le hi];rfl
theorem PU{P:List D.Phi}(hi:i<P.length)(h:Et P 0 P=Et P i (P.drop i))(h0:Lv (ix P i) (P.take i)=0):Et P 0 P=Et P (i+1) (P.drop (i+1)):=by rw[h,Dz hi,Et,if_pos h0]
theorem WC{P:List D.Mach}(hi:i<P.length)(h:Fa 0 P=Fa i (P.drop i))(h0:Db (ix P i)=0):Fa 0 P=Fa (i+1) (P.drop (i+1)):=by rw[h,Dz hi,Fa,if_pos h0]
theorem Qg(hk:k<bs.length)(hB:Eb n 0 bs=Eb n k (bs.drop k))(hi:i<(ix bs k).Phis.length)(hP:Et (ix bs k).Phis 0 (ix bs k).Phis=Et (ix bs k).Phis i ((ix bs k).Phis.drop i))(h:¬Lv (ix (ix bs k).Phis i) ((ix bs k).Phis.take i)=0) :
  Eb n 0 bs=some (Lv (ix (ix bs k).Phis i) ((ix bs k).Phis.take i),(k:Int),-1-(i:Int)):=by
 rw[Dz hi,Et,if_neg h] at hP
 rw[hB,Dz hk,Eb,Mx,hP]
theorem Qh(hk:k<bs.length)(hB:Eb n 0 bs=Eb n k (bs.drop k))(hP:Et (ix bs k).Phis 0 (ix bs k).Phis=none)(hi:i<(ix bs k).Ins.length)(hI:Fa 0 (ix bs k).Ins=Fa i ((ix bs k).Ins.drop i))(h:¬Db (ix (ix bs k).Ins i)=0) :
  Eb n 0 bs=some (Db (ix (ix bs k).Ins i),(k:Int),(i:Int)):=by
 rw[Dz hi,Fa,if_neg h] at hI
 rw[hB,Dz hk,Eb,Mx,hP,hI]
theorem Qi(hk:k<bs.length)(hB:Eb n 0 bs=Eb n k (bs.drop k))(hP:Et (ix bs k).Phis 0 (ix bs k).Phis=none)(hI:Fa 0 (ix bs k).Ins=none)(h:¬Fc (ix bs k).End n=0) :
  Eb n 0 bs=some (Fc (ix bs k).End n,(k:Int),((ix bs k).Ins.length:Int)):=by
 rw[hB,Dz hk,Eb,Mx,hP,hI]
 simp only[if_neg h]
theorem KW(hk:k<bs.length)(hB:Eb n 0 bs=Eb n k (bs.drop k))(hP:Et (ix bs k).Phis 0 (ix bs k).Phis=none)(hI:Fa 0 (ix bs k).Ins=none)(h:Fc (ix bs k).End n=0) :
  Eb n 0 bs=Eb n (k+1) (bs.drop (k+1)):=by
 rw[hB,Dz hk,Eb,Mx,hP,hI]
 simp only[if_pos h]
theorem Oe(hk:bs.length≤k)(hB:Eb n 0 bs=Eb n k (bs.drop k)):Eb n 0 bs=none:=by rw[hB,List.drop_of_length_le hk];rfl
theorem D4:∀(bs:List D.MBlock) (b:Nat),Eb n b bs=none→∀x∈bs,Et x.Phis 0 x.Phis=none∧Fa 0 x.Ins=none∧Fc x.End n=0
 | [],_,_,x,hx=>by cases hx
 | y::l,b,h,x,hx=>by
  rw[Eb] at h
  cases hb:Mx n y with
  | some t=>rw[hb] at h;cases h
  | none =>
   rw[hb] at h
   rcases List.mem_cons.1 hx with rfl|hx
   ·unfold Mx at hb
    cases h1:Et x.Phis 0 x.Phis with
    | some t=>rw[h1] at hb;cases hb
    | none =>
     rw[h1] at hb
     cases h2:Fa 0 x.Ins with
     | some t=>rw[h2] at hb;cases hb
     | none =>
      rw[h2] at hb
      refine⟨rfl,rfl,?_⟩
      by_cases h3:Fc x.End n=0
      ·exact h3
      ·simp only[if_neg h3] at hb;cases hb
   ·exact D4 l _ h x hx
theorem GH{e:D.End}(h:Fc e n=0):toM e=true∧Ij (nM9 e)=true∧∀t∈e.To,1≤t∧t<n:=by
 unfold Fc at h
 split at h
 ·cases h
 ·split at h
  ·cases h
  ·split at h
   ·cases h
   ·rename_i h1 h2 h3
    refine⟨by simpa using h1,by simpa using h2,fun t ht=>?_⟩
    have:=(List.any_eq_false.1 (by simpa[Hq] using h3)) t ht
    unfold Uh at this;simp at this;omega
theorem V6(h:Eb n 0 bs=none):∀x∈bs,∀t∈x.End.To,1≤t∧t<n:=fun x hx=>(GH (D4 bs 0 h x hx).2.2).2.2
end
section
variable{m:D.MFunc}
theorem Rh(h:m.Params<0∨4<m.Params):Hn m=(1,0,0):=by unfold Hn;rw[if_pos h]
theorem Rf(h:¬m.Params<0∧¬4<m.Params)(h2:(m.Blocks.length:Int)=0):Hn m=(14,0,0):=by unfold Hn;rw[if_neg (by omega),if_pos (by omega)]
theorem Rd(h:¬m.Params<0∧¬4<m.Params)(h2:¬(m.Blocks.length:Int)=0)(h3:512<(m.Blocks.length:Int)∨16384<Kh m.Blocks):Hn m=(2,0,0):=by unfold Hn;rw[if_neg (by omega),if_neg (by omega),if_pos (by omega)]
theorem Gs(h:¬m.Params<0∧¬4<m.Params)(h2:¬(m.Blocks.length:Int)=0)(h3:¬512<(m.Blocks.length:Int)∧¬16384<Kh m.Blocks){t:Int×Int×Int}(h4:Eb m.Blocks.length 0 m.Blocks=some t):Hn m=t:=by
 unfold Hn;rw[if_neg (by omega),if_neg (by omega),if_neg (by omega),h4]
theorem Re(h:¬m.Params<0∧¬4<m.Params)(h2:¬(m.Blocks.length:Int)=0)(h3:¬512<(m.Blocks.length:Int)∧¬16384<Kh m.Blocks)(h4:Eb m.Blocks.length 0 m.Blocks=none):Hn m=Jm m:=by
 unfold Hn;rw[if_neg (by omega),if_neg (by omega),if_neg (by omega),h4]
end
theorem CS{a0:Value}{m:D.MFunc}:Tv Tryz.prog 38 #[vMFunc m a0] [da Bo (vMFunc m a0) m] [] (.tuple #[.int .i64 ((Hn m).1),.int .i64 ((Hn m).2.1),.int .i64 ((Hn m).2.2)]):=by
 refine Af (args:=[vMFunc m a0]) Tryz.func38 rfl rfl rfl fun w0 X=>?_
 refine jq (jr (Bj Z Z fun g1=>ja Z (ja Z (ja Z (jn (jx (jq (jr (ja Z (jn ?_))))))))))
 refine jx (jq (jq (jr (js (jf Lg Z) (js (jl k0 O26 Z Z) (jdq (Bo.cB d0) fun q1 w1=>js (jln U26 (Bo.cB d0) Z) (jm Z (jn (jx (jb ?_))))))))))
 refine jlp (u2 fun(k:Nat) (c:Int)=>⟨k≤m.Blocks.length∧c+Kh (m.Blocks.drop k)=Kh m.Blocks∧0≤c∧c≤2147483649*k,[da Bo (vMFunc m a0) m],[bx g1 28 [.int .i64 m.Params,a0]],[(1,.pointer (some ⟨g1,0,none⟩)),(2,.int .i64 0),(3,.int .i64 0),(4,.int .i64 0),(5,.int .i64 c),(18,a0),(19,.int .i64 (↑(List.length m.Blocks))),(20,.int .i64 (↑k))],m.Blocks.length-k⟩) (0,0) ⟨by dsimp only;omega,by simp,by simp,by simp⟩ (dc d0 dn) (kc k0 kn) ⟨Z,Z,Z,Z,eqI (by omega),Z,Z,eqI (by omega),trivial⟩ ?_
 rintro⟨k,c⟩;dsimp only[u2];rintro⟨hk,hc,h0,hc9⟩
 refine jq (jr (js (Ai Z Z) (jn (jx (jq ?_)))))
 refine jif Z (fun hc1=>?_) (fun hc1=>?_)
 refine jsk (jx (jq (jb (jq (jr (js (jix U26 Z95 (Bo.cB d0) Z Z Z (by omega)) (jA3 Vc (jlA (dix (Bo.cB d0) k (by omega)) A95 Z95 Z) fun c23a c23b c23c=>Bg J95 Z fun g7=>jdq (Av.cP d0) fun q3 w3=>jdq (Av.cI d0) fun q4 w4=>jdq (Av.cT d0) fun q5 w5=>?_)))))))
 refine Az k0 Z95 Z Z Z ⟨w3.one,w4.one,Z,Z,Z,w5.one,Z,trivial⟩ (saf Z) (jn (jx (jr (jm Z (js (jf Ro Z) (js (jl k0 O57 Z Z) (js (jln U57 (Av.cP d0) Z) (js (jf Wg Z) (js (jl k0 O93 Z Z) (js (jln U93 (Av.cI d0) Z) (js (Ac Z Z (by omega)) ?_)))))))))))
 refine js (Ac Z Z (by omega)) (js (Ac Z Z (by omega)) (ja Z (jn (jbn (jx (jr (js (Ac Z Z (by omega)) (jm Z (jn ?_)))))))))
 exact jag (k+1,c+(((((List.length ((ix m.Blocks k).Phis):Nat):Int))+(((List.length ((ix m.Blocks k).Ins):Nat):Int)))+1)) ⟨by dsimp only;omega,by dsimp only;rw[←hc,Dz (l:=m.Blocks) (i:=k) (by omega),Kh];omega,by dsimp only;omega,by dsimp only;omega⟩ (dc d1 dn) (kc k1 kn) ⟨Z,Z,Z,Z,Z,Z,Z,eqI (by omega),trivial⟩
 have hcnt:c=Kh m.Blocks:=by rw[←hc,List.drop_of_length_le (by omega)];simp[Kh]
 subst hcnt
 refine jex (jtx (jtx (jbh (jx (jq (jb (jq (jr (js (jf S1 Z) (js (jl k0 O3 Z Z) (js (Ai Z Z) ?_)))))))))))
 refine jm Z (jg Z Z (.f _) (fun hg=>jf S1 Z) (jg Z Z (.f _) (fun hg=>jl k0 O3 (evg Z hg) Z) (jg Z Z (.f _) (fun hg=>Fi (evg Z hg) Z) (js (jor Z Z) (ja Z (jn (jx ?_)))))))
 refine jif Z (fun hc2=>?_) (fun hc2=>?_)
 refine jq (jr (ja Z (ja Z (ja Z (jn (jx (jrt (jbr (jtr ?_)))))))))
 exact jr3 Z Z Z Z () (Ni (by first|exact Rh hc2|exact Rf hc2 hc3|exact Rd hc2 hc3 hc4|exact Gs hc2 hc3 hc4 (Qg (by omega) hB (by omega) hP hc7)|exact Gs hc2 hc3 hc4 (Qh (by omega) hB (Jh (by omega) hP) (by omega) hI hc9)|exact Gs hc2 hc3 hc4 (Qi (by omega) hB (Jh (by omega) hP) (Ps (by omega) hI) hc10)|exact Re hc2 hc3 hc4 (Oe (by omega) hB))) dn (fun _ _=>kn)
 refine jq (jr (js (jf Lg Z) (js (jl k0 O26 Z Z) (js (jln U26 (Bo.cB d0) Z) (js (Aj Z Z) (ja Z (jn (jx ?_))))))))
 refine jif Z (fun hc3=>?_) (fun hc3=>?_)
 refine jq (jr (ja Z (ja Z (ja Z (jn (jx (jrt (jbr (jtr ?_)))))))))
 exact jr3 Z Z Z Z () (Ni (by first|exact Rh hc2|exact Rf hc2 hc3|exact Rd hc2 hc3 hc4|exact Gs hc2 hc3 hc4 (Qg (by omega) hB (by omega) hP hc7)|exact Gs hc2 hc3 hc4 (Qh (by omega) hB (Jh (by omega) hP) (by omega) hI hc9)|exact Gs hc2 hc3 hc4 (Qi (by omega) hB (Jh (by omega) hP) (Ps (by omega) hI) hc10)|exact Re hc2 hc3 hc4 (Oe (by omega) hB))) dn (fun _ _=>kn)
 refine jq (jr (js (jf Lg Z) (js (jl k0 O26 Z Z) (js (jln U26 (Bo.cB d0) Z) (js (Fi Z Z) (jm Z (jg Z Z (.f _) (fun hg=>jmv Z) (jg Z Z (.f _) (fun hg=>Fi (evg Z hg) Z) (js (jor Z Z) (ja Z (jn ?_)))))))))))
 refine jx ?_
 refine jif Z (fun hc4=>?_) (fun hc4=>?_)
 refine jq (jr (ja Z (ja Z (ja Z (jn (jx (jrt (jbr (jtr ?_)))))))))
 exact jr3 Z Z Z Z () (Ni (by first|exact Rh hc2|exact Rf hc2 hc3|exact Rd hc2 hc3 hc4|exact Gs hc2 hc3 hc4 (Qg (by omega) hB (by omega) hP hc7)|exact Gs hc2 hc3 hc4 (Qh (by omega) hB (Jh (by omega) hP) (by omega) hI hc9)|exact Gs hc2 hc3 hc4 (Qi (by omega) hB (Jh (by omega) hP) (Ps (by omega) hI) hc10)|exact Re hc2 hc3 hc4 (Oe (by omega) hB))) dn (fun _ _=>kn)
 refine jsk (jbn (jx (jq (jq (jr (js (jf Lg Z) (js (jl k0 O26 Z Z) (js (jln U26 (Bo.cB d0) Z) (jm Z (jn (jx ?_)))))))))))
 refine jb ?_
 refine jlp (fun(k:Nat)=>⟨k≤m.Blocks.length∧Eb m.Blocks.length 0 m.Blocks=Eb m.Blocks.length k (m.Blocks.drop k),[da Bo (vMFunc m a0) m],[bx g1 28 [.int .i64 m.Params,a0]],[(1,.pointer (some ⟨g1,0,none⟩)),(59,a0),(60,.int .i64 (↑(List.length m.Blocks))),(61,.int .i64 (↑k))],m.Blocks.length-k⟩) 0 ⟨by omega,rfl⟩ (dc d0 dn) (kc k0 kn) ⟨Z,Z,Z,eqI (by omega),trivial⟩ ?_
 rintro k;dsimp only;rintro⟨hk,hB⟩
 refine jq (jr (js (Ai Z Z) (jn (jx (jq ?_)))))
 refine jif Z (fun hc5=>?_) (fun hc5=>?_)
 refine jsk (jx (jq (jb (jq (jr (jm Z (js (jix U26 Z95 (Bo.cB d0) Z Z Z (by omega)) (jA3 Vc (jlA (dix (Bo.cB d0) k (by omega)) A95 Z95 Z) fun c65a c65b c65c=>Bg J95 Z fun g9=>ja Z (jdq (Av.cP d0) fun q7 w7=>?_)))))))))
 refine jdq (Av.cI d0) fun q8 w8=>jdq (Av.cT d0) fun q9 w9=>Az k0 Z95 Z Z Z ⟨w7.one,w8.one,Z,Z,Z,w9.one,Z,trivial⟩ (saf Z) (jn (jx (jq (jq (jr (js (jf Ro Z) (js (jl k0 O57 Z Z) (js (jln U57 (Av.cP d0) Z) (jm Z ?_)))))))))
 refine jn (jx (jb ?_))
 refine jlp (fun(i:Nat)=>⟨i≤(ix m.Blocks k).Phis.length∧Et (ix m.Blocks k).Phis 0 (ix m.Blocks k).Phis=Et (ix m.Blocks k).Phis i ((ix m.Blocks k).Phis.drop i),[da Av (vMBlock (ix m.Blocks k) (c65a,c65b,c65c)) (ix m.Blocks k),da Bo (vMFunc m a0) m],[bx g9 95 [c65a,c65b,.int .i64 (((ix m.Blocks k).End).Op),.int .i64 (((ix m.Blocks k).End).A),.int .i64 (((ix m.Blocks k).End).B),c65c,.int .i32 (((ix m.Blocks k).End).Imm)],bx g1 28 [.int .i64 m.Params,a0]],[(1,.pointer (some ⟨g1,0,none⟩)),(8,.int .i64 (↑k)),(9,.pointer (some ⟨g9,0,none⟩)),(59,a0),(60,.int .i64 (↑(List.length m.Blocks))),(61,.int .i64 (↑k)),(67,c65a),(68,.int .i64 (↑(List.length ((ix m.Blocks k).Phis)))),(69,.int .i64 (↑i))],(ix m.Blocks k).Phis.length-i⟩) 0 ⟨by omega,rfl⟩ (dc d0 (dc d1 dn)) (kd kn) ⟨Z,Z,Z,Z,Z,Z,Z,Z,eqI (by omega),trivial⟩ ?_
 rintro i;dsimp only;rintro⟨hi,hP⟩
 refine jq (jr (js (Ai Z Z) (jn (jx (jq ?_)))))
 refine jif Z (fun hc6=>?_) (fun hc6=>?_)
 refine jsk (jx (jq (jb (jq (jr (jm Z (js (jix U57 Z65 (Av.cP d0) Z Z Z (by omega)) (jA Oi (jlA (dix (Av.cP d0) i (by omega)) A65 Z65 Z) fun c73=>Bg J65 Z fun g11=>ja Z (jdq (As.c_In d0) fun q11 w11=>?_)))))))))
 refine Az k0 Z65 Z Z Z ⟨Z,w11.one,trivial⟩ (saf Z) (jn (jx (jq (jtl 5 Bh (by kernel_rfl) (jt (jla k0 A65 Z65 Z Z Z) (jt (jf Ro Z) (jt (jl k1 O57 Z Z) (jt (jmv Z) (jt (Th (hi:=i) U57 Z65 (Av.cP d1) Z Z Z (by omega)) (jtt (jdq (dhi (Av.cP d1) i (by omega) (by omega)) fun q12 w12=>?_)))))))))))
 refine jcv E77 Z Z QG (dc d0 (dc (dhi (Av.cP d1) i (by omega) (by omega)) dn)) kn (ja Z (jn (jx (jq (jr (jm Z (js (Gz Z Z) (jn (jx ?_)))))))))
 refine jif Z (fun hc7=>?_) (fun hc7=>?_)
 refine jq (jr (jm Z (jm Z (jm Z (js (Gg Z Z (by omega)) (ja Z (ja Z (ja Z (jn (jx (jrt ?_)))))))))))
 refine jbr (jtr (jtr (jbr (jtr (jbr (jtr (jtr (jbr (jtr ?_)))))))))
 exact jr3 Z Z Z Z () (Ni (by first|exact Rh hc2|exact Rf hc2 hc3|exact Rd hc2 hc3 hc4|exact Gs hc2 hc3 hc4 (Qg (by omega) hB (by omega) hP hc7)|exact Gs hc2 hc3 hc4 (Qh (by omega) hB (Jh (by omega) hP) (by omega) hI hc9)|exact Gs hc2 hc3 hc4 (Qi (by omega) hB (Jh (by omega) hP) (Ps (by omega) hI) hc10)|exact Re hc2 hc3 hc4 (Oe (by omega) hB))) dn (fun _ _=>kn)
 refine jsk (jbn (jx (jr (js (Ac Z Z (by omega)) (jm Z (jn ?_))))))
 exact jag (i+1) ⟨by omega,PU (by omega) hP hc7⟩ (dc d1 (dc d2 dn)) (kc k1 (kc k1 kn)) ⟨Z,Z,Z,Z,Z,Z,Z,Z,eqI (by omega),trivial⟩
 refine jex (jtx (jtx (jbh (jx (jq (jq (jr (js (jf Wg Z) (js (jl k0 O93 Z Z) (js (jln U93 (Av.cI d0) Z) (jm Z ?_)))))))))))
 refine jn (jx (jb ?_))
 refine jlp (fun(j:Nat)=>⟨j≤(ix m.Blocks k).Ins.length∧Fa 0 (ix m.Blocks k).Ins=Fa j ((ix m.Blocks k).Ins.drop j),[da Av (vMBlock (ix m.Blocks k) (c65a,c65b,c65c)) (ix m.Blocks k),da Bo (vMFunc m a0) m],[bx g9 95 [c65a,c65b,.int .i64 (((ix m.Blocks k).End).Op),.int .i64 (((ix m.Blocks k).End).A),.int .i64 (((ix m.Blocks k).End).B),c65c,.int .i32 (((ix m.Blocks k).End).Imm)],bx g1 28 [.int .i64 m.Params,a0]],[(1,.pointer (some ⟨g1,0,none⟩)),(8,.int .i64 (↑k)),(9,.pointer (some ⟨g9,0,none⟩)),(59,a0),(60,.int .i64 (↑(List.length m.Blocks))),(61,.int .i64 (↑k)),(88,c65b),(89,.int .i64 (↑(List.length ((ix m.Blocks k).Ins)))),(90,.int .i64 (↑j))],(ix m.Blocks k).Ins.length-j⟩) 0 ⟨by omega,rfl⟩ (dc d0 (dc d1 dn)) (kd kn) ⟨Z,Z,Z,Z,Z,Z,Z,Z,eqI (by omega),trivial⟩ ?_
 rintro j;dsimp only;rintro⟨hj,hI⟩
 refine jq (jr (js (Ai Z Z) (jn (jx (jq ?_)))))
 refine jif Z (fun hc8=>?_) (fun hc8=>?_)
 refine jsk (jx (jq (jb (jq (jr (jm Z (js (jix U93 Z24 (Av.cI d0) Z Z Z (by omega)) (jA Z9 (jlA (dix (Av.cI d0) j (by omega)) A24 Z24 Z) fun c94=>Bg J24 Z fun g14=>ja Z (jdq (Al.c_Args d0) fun q14 w14=>?_)))))))))
 refine Az k0 Z24 Z Z Z ⟨Z,Z,Z,Z,Z,Z,Z,w14.one,trivial⟩ (saf Z) (jn (jx (jq (jr (js (jla k0 A24 Z24 Z Z Z) (jcv E78 Z Z QM (dc d0 dn) kn (ja Z (jn (jx (jq (jr ?_)))))))))))
 refine jm Z (js (Gz Z Z) (jn (jx ?_)))
 refine jif Z (fun hc9=>?_) (fun hc9=>?_)
 refine jq (jr (jm Z (jm Z (jm Z (ja Z (ja Z (ja Z (jn (jx (jrt (jbr ?_)))))))))))
 refine jtr (jtr (jbr (jtr (jbr (jtr (jtr (jbr (jtr ?_))))))))
 exact jr3 Z Z Z Z () (Ni (by first|exact Rh hc2|exact Rf hc2 hc3|exact Rd hc2 hc3 hc4|exact Gs hc2 hc3 hc4 (Qg (by omega) hB (by omega) hP hc7)|exact Gs hc2 hc3 hc4 (Qh (by omega) hB (Jh (by omega) hP) (by omega) hI hc9)|exact Gs hc2 hc3 hc4 (Qi (by omega) hB (Jh (by omega) hP) (Ps (by omega) hI) hc10)|exact Re hc2 hc3 hc4 (Oe (by omega) hB))) dn (fun _ _=>kn)
 refine jsk (jbn (jx (jr (js (Ac Z Z (by omega)) (jm Z (jn ?_))))))
 exact jag (j+1) ⟨by omega,WC (by omega) hI hc9⟩ (dc d1 (dc d2 dn)) (kc k1 (kc k1 kn)) ⟨Z,Z,Z,Z,Z,Z,Z,Z,eqI (by omega),trivial⟩
 refine jex (jtx (jtx (jbh (jx (jq (jr (js (jf Pe Z) (js (jla k0 A88 Z88 Z Z Z) (js (jf Lg Z) (js (jl k1 O26 Z Z) (js (jln U26 (Bo.cB d1) Z) ?_)))))))))))
 refine jcv E79 Z Z (QR (↑(List.length m.Blocks))) (dc (Av.P_End d0) dn) kn (ja Z (jn (jx (jq (jr (jm Z (js (Gz Z Z) (jn (jx ?_)))))))))
 refine jif Z (fun hc10=>?_) (fun hc10=>?_)
 refine jq (Jj Bh (by kernel_rfl) (jt (jmv Z) (jt (jmv Z) (jt (jf Wg Z) (jt (jl k0 O93 Z Z) (jt (jln U93 (Av.cI d0) Z) (jt (jas Z) (jt (jas Z) (jt (jas Z) (jdn (jx ?_)))))))))))
 refine jrt (jbr (jtr (jtr (jbr (jtr ?_)))))
 exact jr3 Z Z Z Z () (Ni (by first|exact Rh hc2|exact Rf hc2 hc3|exact Rd hc2 hc3 hc4|exact Gs hc2 hc3 hc4 (Qg (by omega) hB (by omega) hP hc7)|exact Gs hc2 hc3 hc4 (Qh (by omega) hB (Jh (by omega) hP) (by omega) hI hc9)|exact Gs hc2 hc3 hc4 (Qi (by omega) hB (Jh (by omega) hP) (Ps (by omega) hI) hc10)|exact Re hc2 hc3 hc4 (Oe (by omega) hB))) dn (fun _ _=>kn)
 refine jsk (jbn (jx (jr (js (Ac Z Z (by omega)) (jm Z (jn ?_))))))
 exact jag (k+1) ⟨by omega,KW (by omega) hB (Jh (by omega) hP) (Ps (by omega) hI) hc10⟩ (dc d1 dn) (kc k1 kn) ⟨Z,Z,Z,eqI (by omega),trivial⟩
 refine jex (jtx (jtx (jbh (jx (jq (jr (js (jla k0 A28 Z28 Z Z Z) (jcv E80 Z Z (QO (by first|omega|exact V6 (Oe (by omega) hB)) (by first|omega|exact V6 (Oe (by omega) hB))) (dc d0 dn) kn (js (Be Z Z) (js (Be Z Z) (js (Be Z Z) ?_)))))))))))
 refine ja Z (ja Z (ja Z (jn (jx (jrt ?_)))))
 exact jr3 Z Z Z Z () (Ni (by first|exact Rh hc2|exact Rf hc2 hc3|exact Rd hc2 hc3 hc4|exact Gs hc2 hc3 hc4 (Qg (by omega) hB (by omega) hP hc7)|exact Gs hc2 hc3 hc4 (Qh (by omega) hB (Jh (by omega) hP) (by omega) hI hc9)|exact Gs hc2 hc3 hc4 (Qi (by omega) hB (Jh (by omega) hP) (Ps (by omega) hI) hc10)|exact Re hc2 hc3 hc4 (Oe (by omega) hB))) dn (fun _ _=>kn)
theorem CP{a0:Value}{m:D.MFunc}:Tv Tryz.prog 35 #[vMFunc m a0] [da Bo (vMFunc m a0) m] [] (.bool (Nn m)):=by
 refine Af (args:=[vMFunc m a0]) Tryz.func35 rfl rfl rfl fun w0 X=>?_
 refine jq (jr (Bj Z Z fun g1=>ja Z (jn (jx (jq (jr (js (jla k0 A28 Z28 Z Z Z) (jcv E38 Z Z CS (dc d0 dn) kn (jm Z (js (Be Z Z) ?_))))))))))
 refine js (Be Z Z) (js (Be Z Z) (ja Z (ja Z (ja Z (jn (jx (jq (jr (jm Z (js (Aj Z Z) (ja Z ?_)))))))))))
 refine jn (jx (jrt ?_))
 exact jrB Z Z (by rfl)
theorem E82:Ent Tryz.prog 82:=⟨_,Tryz.func82,by kernel_rfl,by kernel_rfl⟩
def Ei(from':Int)(x:D.In):Bool:=decide (x.From=from')
def Xs(from':Int)(regs:List Int)(p:D.Phi):Int:=ix regs (Int.toNat (ix p.In (Int.toNat (Di p.In (Ei from')))).Val)
def Jv:List Int→List D.Phi→List Int→List Int
 | rs,p::l,v::vs=>Jv (rs.set (Int.toNat p.Dst) v) l vs
 | rs,_,_=>rs
def Nr(l:List D.Phi)(from':Int)(regs:List Int):List Int:=Jv regs l (l.map (Xs from' regs))
theorem L6{α:Type}(l:List α)(q:α→Bool):Di l q<l.length:=by
 unfold Di
 cases h:l.findIdx? q with
 | none=>simp only;omega
 | some i=>obtain⟨hi,_⟩:=List.findIdx?_eq_some_iff_getElem.1 h;simp only;omega
theorem Z2:∀(rs:List Int) (l:List D.Phi) (vs:List Int),(Jv rs l vs).length=rs.length
 | rs,p::l,v::vs=>by rw[Jv,Z2];simp
 | rs,[],_=>by cases ‹List Int›<;>rfl
 | rs,_::_,[]=>rfl
theorem MS(rs:List Int)(vs:List Int):Jv rs [] vs=rs:=by cases vs<;>rfl
theorem MR{rs rs2:List Int}{l:List D.Phi}{vs:List Int}{k:Nat}(h1:k<l.length)(h2:k<vs.length)(h:Jv rs l vs=Jv rs2 (l.drop k) (vs.drop k)):Jv rs l vs=Jv (rs2.set (Int.toNat (ix l k).Dst) (ix vs k)) (l.drop (k+1)) (vs.drop (k+1)):=by
 rw[h,Dz (l:=l) h1,Dz (l:=vs) h2,Jv]
def Sm(from':Int)(n:Nat)(p:D.Phi):Prop:=0≤p.Dst∧p.Dst<n∧0≤Di p.In (Ei from')∧∀x∈p.In,0≤x.Val∧x.Val<n
theorem Sm.v{from':Int}{n:Nat}{p:D.Phi}(h:Sm from' n p):0≤(ix p.In (Int.toNat (Di p.In (Ei from')))).Val∧(ix p.In (Int.toNat (Di p.In (Ei from')))).Val<n:=by
 have:=L6 p.In (Ei from')
 exact h.2.2.2 _ (Ax (by have:=h.2.2.1;omega))
theorem QF{x:D.In}{c:Int}{g1:Nat}:Tr Tryz.prog 82 #[vIn x (),.pointer (some ⟨g1,0,none⟩)] [da rIn (vIn x ()) x] [bx g1 3 [.int .i64 c]] (fun _:Unit => .bool (Ei c x)) (fun _=>[]) (fun _ _=>[bx g1 3 [.int .i64 c]]):=by
 refine Af (args:=[vIn x (),.pointer (some ⟨g1,0,none⟩)]) Tryz.func82 rfl rfl rfl fun w0 X=>?_
 refine jq (jr (Bj Z Z fun g2=>ja Z (jn (jx (jq (jr (js (jf Ur Z) (js (jl k0 O3 Z Z) (js (jl k1 O3 Z Z) (js (Aj Z Z) ?_))))))))))
 refine ja Z (jn (jx (jrt ?_)))
 exact jr1 Z Z () (congrArg Value.bool (Eq.symm (by rfl))) dn (fun _ _=>(kc k1 kn))
theorem QE{a0:Value}{l:List D.Phi}(from':Int){a2:Value}{regs:List Int}{B2:Nat}(hrl0:regs.length<1073741824)(hp:∀p∈l,Sm from' regs.length p):Tr Tryz.prog 40 #[a0,.int .i64 from',a2] [dv (rL As) a0 l] [gl B2 (rI .i32) 21 a2 regs] (fun _:Unit => .tuple #[]) (fun _=>[]) (fun _ _=>[gl B2 (rI .i32) 21 a2 (Nr l (from') regs)]):=by
 refine Af (args:=[a0,.int .i64 from',a2]) Tryz.func40 rfl rfl rfl fun w0 X=>?_
 refine cgo k0 fun w1=>jq (jr (Bj Z Z fun g4=>jn (jx (jq (jr (ja Z (jn (jx (jq ?_)))))))))
 refine jq (jr (jm Z (jdq d0 fun q2 w2=>js (jln U57 d0 Z) (jm Z (jn (jx (jb (cnl (r:=(rI .i32)) (E:=21) ?_))))))))
 refine jlp (u3 fun(k:Nat) (vo:Value) (vs:List Int)=>⟨k≤l.length∧vs=(l.take k).map (Xs from' regs),[dv (rL As) a0 l],[gl X.n (rI .i32) 21 vo vs,bx g4 3 [.int .i64 (from')],gl B2 (rI .i32) 21 a2 regs],[(0,a0),(2,a2),(4,.pointer (some ⟨g4,0,none⟩)),(6,vo),(12,a0),(13,.int .i64 (↑l.length)),(14,.int .i64 (↑k))],l.length-k⟩) (0,.slice none 0 0,[]) ⟨by dsimp only;omega,rfl⟩ (dc d0 dn) (kd (kc k0 kn)) ⟨Z,Z,Z,Z,Z,Z,eqI (by omega),trivial⟩ ?_
 rintro⟨k,vo,vs⟩;dsimp only[u3];rintro⟨hk,hvs⟩
 refine cgo k0 fun w3=>?_
 have hvl:vs.length=k:=by rw[hvs];simp;omega
 refine jq (jr (js (Ai Z Z) (jn (jx (jq ?_)))))
 refine jif Z (fun hc1=>?_) (fun hc1=>?_)
 have hpk:=hp _ (Ax (l:=l) (i:=k) (by omega))
 have hpv:=hpk.v
 have hpi:=L6 (ix l k).In (Ei from')
 obtain⟨hd0,hd1,hi0,_⟩:=hpk
 refine jsk (jx (jq (jb (jq (jr (js (jix U57 Z65 d0 Z Z Z (by omega)) (jA Oi (jlA (dix d0 k (by omega)) A65 Z65 Z) fun c17=>Bg J65 Z fun g8=>jdq (As.c_In d0) fun q5 w5=>Az k0 Z65 Z Z Z ⟨Z,w5.one,trivial⟩ (saf Z) (jn ?_))))))))
 refine jx (jq (jr (js (jf Ld Z) (js (jl k0 O63 Z Z) (js (Ou Z) (jcp E81 Z Z (L7 (Ei from') E82 (fun x _ c=>Tr.it QF ir)) (dc (As.c_In d0) (dc (db dn) dn)) (kc k2 kn) p1 (ja Z (jn (jx (jr (jm Z ?_)))))))))))
 refine jm Z (js (jf Ld Z) (js (jl k1 O63 Z Z) (jm Z (js (jix (i:=(Int.toNat (Di ((ix l k).In) (Ei from')))) U63 Jr (As.c_In d0) Z Z (by omega) (by omega)) (js (jf Wl Z) (js (jlI (rIn.A_Val (dix (As.c_In d0) (Int.toNat (Di ((ix l k).In) (Ei from'))) (by omega))) O3 Z) (js (jig (i:=(Int.toNat ((ix ((ix l k).In) (Int.toNat (Di ((ix l k).In) (Ei from')))).Val))) U29 Z21 k3 Z Z (by omega) (by omega)) (js (jgI k3 (by omega) O21 Z) (Hz U29 I21 (by decide) Z Z k2 Z (wI (wgl k3 (by omega))) (by omega) (fun _=>Z) fun v33 _ w6=>ja Z (jn ?_))))))))))
 refine jbn (jx (jr (js (Ac Z Z (by omega)) (jm Z (jn ?_)))))
 exact jag (k+1,v33,vs++[ix regs (Int.toNat ((ix ((ix l k).In) (Int.toNat (Di ((ix l k).In) (Ei from')))).Val))]) ⟨by dsimp only;omega,by dsimp only;rw[hvs,Ff (by omega),List.map_append];rfl⟩ (dc d1 dn) (kd (kc k1 kn)) ⟨Z,Z,Z,Z,Z,Z,eqI (by omega),trivial⟩
 have hvl2:vs.length=l.length:=by omega
 refine jex (jtx (jtx (jbh (jx (jq (jr (jm Z (js (jln U57 d0 Z) (jm Z (jn (jx ?_)))))))))))
 refine jb ?_
 refine jlp (u2 fun(k:Nat) (rs:List Int)=>⟨k≤l.length∧Jv regs l vs=Jv rs (l.drop k) (vs.drop k)∧rs.length=regs.length,[dv (rL As) a0 l],[gl X.n (rI .i32) 21 vo vs,gl B2 (rI .i32) 21 a2 rs],[(2,a2),(6,vo),(35,a0),(36,.int .i64 (↑l.length)),(37,.int .i64 (↑k))],l.length-k⟩) (0,regs) ⟨by dsimp only;omega,rfl,rfl⟩ (dc d0 dn) (kc k0 (kc k1 kn)) ⟨Z,Z,Z,Z,eqI (by omega),trivial⟩ ?_
 rintro⟨k,rs⟩;dsimp only[u2];rintro⟨hk,hS,hrl⟩
 refine jq (jr (js (Ai Z Z) (jn (jx (jq ?_)))))
 refine jif Z (fun hc2=>?_) (fun hc2=>?_)
 have hpk:=hp _ (Ax (l:=l) (i:=k) (by omega))
 obtain⟨hd0,hd1,hi0,_⟩:=hpk
 refine jsk (jx (jq (jb (jq (jr (jm Z (js (jix U57 Z65 d0 Z Z Z (by omega)) (jA Oi (jlA (dix d0 k (by omega)) A65 Z65 Z) fun c41=>Bg J65 Z fun g11=>ja Z (jdq (As.c_In d0) fun q8 w8=>?_)))))))))
 refine Az k0 Z65 Z Z Z ⟨Z,w8.one,trivial⟩ (saf Z) (jn (jx (jtl 8 Bh (by kernel_rfl) (jt (jmv Z) (jt (jf Pf Z) (jt (jl k0 O3 Z Z) (jt (jmv Z) (jt (jmv Z) (jt (jig U29 Z21 k1 Z Z Z (by omega)) (jt (jgI k1 (by omega) O21 Z) (jt (jig (i:=(Int.toNat ((ix l k).Dst))) U29 Z21 k2 Z Z (by omega) (by omega)) ?_)))))))))))
 refine jtt (jsg k2 Z Z21 Z Z Z (by omega) (wI (wgl k1 (by omega))) (jn (jbn (jx (jr (js (Ac Z Z (by omega)) (jm Z (jn ?_))))))))
 exact jag (k+1,List.set rs (Int.toNat ((ix l k).Dst)) (ix vs k)) ⟨by dsimp only;omega,MR (by omega) (by omega) hS,by dsimp only;rw[List.length_set];exact hrl⟩ (dc d1 dn) (kc k2 (kc k0 kn)) ⟨Z,Z,Z,Z,eqI (by omega),trivial⟩
 refine jex (jtx (jtx (jbh ?_)))
 exact jd0 Z () Z dn (fun _ _=>(kcg (by have e1:k=l.length:=(by omega);unfold Nr;rw[List.take_of_length_le (by omega)] at hvs;rw[←hvs,hS,List.drop_of_length_le (by omega),MS]) k1 kn))
def HF(rs:List Int)(d:Int)(an:List Int):List Int:=rs.set d.toNat (ix an 0)
def Dq(N:Int)(K:List Int→List Int→List D.Event→List Int→Int→D.Outcome):List D.Mach→List Int→List Int→List D.Event→List Int→Int→D.Outcome
 | [],rs,me,cl,an,s=>K rs me cl an s
 | i::l,rs,me,cl,an,s =>
  if N≤s then ⟨3,0,me,cl,s⟩
  else if i.Op=28 then Dq N K l (HF rs i.D an) me (cl++[⟨i.Imm,i.Args.map (fun r=>ix rs r.toNat)⟩]) (an.drop 1) (s+1)
  else if (Au i rs me).1.2=false then ⟨2,(Au i rs me).1.1,(Au i rs me).2.2,cl,s+1⟩
  else Dq N K l (Au i rs me).2.1 (Au i rs me).2.2 cl an (s+1)
def Jb(N:Int)(e:D.End)(go:Int→List Int→List Int→List D.Event→List Int→Int→D.Outcome)(rs me:List Int)(cl:List D.Event)(an:List Int)(s:Int):D.Outcome :=
 if N≤s then ⟨3,0,me,cl,s⟩
 else if e.Op=7 then ⟨1,Ab rs e.A,me,cl,s+1⟩
 else if e.Op=8 then ⟨2,e.Imm,me,cl,s+1⟩
 else go (ix e.To (Int.toNat (Dc e rs))) rs me cl an (s+1)
def Me(bs:List D.MBlock)(N:Int):Nat→Int→Int→List Int→List Int→List D.Event→List Int→Int→D.Outcome
 | 0,_,_,_,me,cl,_,s=>⟨3,0,me,cl,s⟩
 | f+1,at',from',rs,me,cl,an,s=>Dq N (Jb N (ix bs at'.toNat).End (fun t=>Me bs N f t at')) (ix bs at'.toNat).Ins (Nr (ix bs at'.toNat).Phis from' rs) me cl an s
def Nj(m:D.MFunc)(i:D.Input):List Int:=List.take (min (Int.toNat m.Params) i.Args.length) i.Args++List.drop (min (Int.toNat m.Params) i.Args.length) (List.replicate 8192 0)
def Ii(m:D.MFunc)(i:D.Input):D.Outcome:=if Nn m=false then ⟨4,0,[],[],0⟩ else Me m.Blocks i.Steps (Int.toNat i.Steps+1) 0 (-1) (Nj m i) (Ns i) [] i.Answers 0
theorem O6{bs:List D.MBlock}{N:Int}{f:Nat}(hf:0<f)(at' from':Int)(rs me:List Int)(cl:List D.Event)(an:List Int)(s:Int) :
  Me bs N f at' from' rs me cl an s=Dq N (Jb N (ix bs at'.toNat).End (fun t=>Me bs N (f-1) t at')) (ix bs at'.toNat).Ins (Nr (ix bs at'.toNat).Phis from' rs) me cl an s:=by
 obtain⟨f,rfl⟩:∃g,f=g+1:=⟨f-1,by omega⟩
 rfl
theorem PT(l:List D.Phi)(from':Int)(rs:List Int):(Nr l from' rs).length=rs.length:=Z2 _ _ _
theorem DO(i:D.Input):(Ns i).length≤4096:=by unfold Ns;simp;omega
def Uk(rs me:List Int)(r:(Int×Bool)×List Int×List Int):Prop:=r.2.1.length=rs.length∧r.2.2.length=me.length
theorem Uk.ite{rs me:List Int}{c:Prop}[Decidable c]{a b:(Int×Bool)×List Int×List Int}(h1:Uk rs me a)(h2:Uk rs me b):Uk rs me (if c then a else b):=by split<;>assumption
theorem LL(i:D.Mach)(rs me:List Int):Uk rs me (Au i rs me):=by
 unfold Au
 repeat' apply Uk.ite
 all_goals (constructor<;>(try simp only[Oh,Hw]))
theorem Mj(i:D.Mach)(rs me:List Int):(Au i rs me).2.1.length=rs.length∧(Au i rs me).2.2.length=me.length:=LL i rs me
structure WFm(m:D.MFunc):Prop where
 p0:0≤m.Params∧m.Params≤4
 n0:0<m.Blocks.length∧m.Blocks.length≤512
 ins:∀x∈m.Blocks,∀i∈x.Ins,i.Op=28→0≤i.D∧i.D<8192∧i.Args.length≤4∧∀r∈i.Args,0≤r∧r<8192
 to:∀x∈m.Blocks,toM x.End=true∧∀t∈x.End.To,1≤t∧t<m.Blocks.length
 phi:∀k:Nat,k<m.Blocks.length→∀p∈(ix m.Blocks k).Phis,0<k∧p.In.map (·.From)=Qr m.Blocks k∧0≤p.Dst∧p.Dst<8192∧∀x∈p.In,0≤x.Val∧x.Val<8192
theorem Vd:∀{l:List Int},Ij l=true→∀r∈l,0≤r∧r<8192
 | [],_,r,hr=>by cases hr
 | x::l,h,r,hr=>by
  rw[Ij] at h
  split at h
  ·cases h
  ·rcases List.mem_cons.1 hr with rfl|hr
   ·omega
   ·exact Vd h r hr
theorem FA:∀{l:List D.Mach} {k:Nat},Fa k l=none→∀i∈l,Db i=0
 | [],_,_,i,hi=>by cases hi
 | y::l,k,h,i,hi=>by
  rw[Fa] at h
  split at h
  ·rcases List.mem_cons.1 hi with rfl|hi
   ·assumption
   ·exact FA h i hi
  ·cases h
theorem CA{P:List D.Phi}:∀{l:List D.Phi} {k:Nat},Et P k l=none→∀p∈l,∃j,Lv p (P.take j)=0
 | [],_,_,i,hi=>by cases hi
 | y::l,k,h,i,hi=>by
  rw[Et] at h
  split at h
  ·rcases List.mem_cons.1 hi with rfl|hi
   ·exact⟨_,by assumption⟩
   ·exact CA h i hi
  ·cases h
theorem FP:∀{l:List D.MBlock} {k:Nat} {bs:List D.MBlock},(Gc bs k l).1=0→∀j:Nat,j<l.length→∀p∈(ix l j).Phis,Ir bs (k+j) p=false
 | [],_,_,_,j,hj=>by cases hj
 | x::l,k,bs,h,j,hj=>by
  rw[Gc] at h
  cases hf:x.Phis.findIdx? (Ir bs k) with
  | some i=>rw[hf] at h;cases h
  | none =>
   rw[hf] at h
   intro p hp
   cases j with
   | zero=>exact(List.findIdx?_eq_none_iff.1 hf) p hp
   | succ j =>
    have:=FP h j (by simpa using hj) p (by simpa[ix] using hp)
    rw[show k+1+j=k+(j+1) by omega] at this
    exact this
theorem NL{m:D.MFunc}(h:Nn m=true):WFm m:=by
 unfold Nn at h
 rw[decide_eq_true_eq] at h
 unfold Hn at h
 split at h
 ·cases h
 split at h
 ·cases h
 split at h
 ·cases h
 rename_i h1 h2 h3
 cases ht:Eb m.Blocks.length 0 m.Blocks with
 | some t =>
  rw[ht] at h
  exfalso
  have:∀(bs:List D.MBlock) (b:Nat) (n:Int) (t:Int×Int×Int),Eb n b bs=some t→t.1≠0:=by
   intro bs
   induction bs with
   | nil=>intro b n t h;cases h
   | cons x l ih =>
    intro b n t h
    rw[Eb] at h
    cases hb:Mx n x with
    | none=>rw[hb] at h;exact ih _ _ _ h
    | some u =>
     rw[hb] at h
     cases h
     show u.1≠0
     unfold Mx at hb
     have hp:∀(P l:List D.Phi) (k:Nat) (u:Int×Int),Et P k l=some u→u.1≠0:=by
      intro P l
      induction l with
      | nil=>intro k u h;cases h
      | cons p l ih2=>intro k u h;rw[Et] at h;split at h;(· exact ih2 _ _ h);cases h;assumption
     have hi:∀(l:List D.Mach) (k:Nat) (u:Int×Int),Fa k l=some u→u.1≠0:=by
      intro l
      induction l with
      | nil=>intro k u h;cases h
      | cons p l ih2=>intro k u h;rw[Fa] at h;split at h;(· exact ih2 _ _ h);cases h;assumption
     cases h1:Et x.Phis 0 x.Phis with
     | some t=>rw[h1] at hb;cases hb;exact hp _ _ _ _ h1
     | none =>
      rw[h1] at hb
      cases h2:Fa 0 x.Ins with
      | some t=>rw[h2] at hb;cases hb;exact hi _ _ _ h2
      | none =>
       rw[h2] at hb
       by_cases h3:Fc x.End n=0
       ·simp only[if_pos h3] at hb;cases hb
       ·simp only[if_neg h3] at hb;cases hb;exact h3
  exact this _ _ _ _ ht h
 | none =>
  rw[ht] at h
  replace h:(Jm m).1=0:=h
  have hg:(Gc m.Blocks 0 m.Blocks).1=0:=by
   unfold Jm at h;split at h
   ·cases h
   ·exact h
  have hN:=D4 _ _ ht
  refine⟨by omega,⟨by omega,by omega⟩,?_,fun x hx=>?_,?_⟩
  ·intro x hx i hi h28
   have h9:=FA (hN x hx).2.1 i hi
   unfold Db at h9
   split at h9
   ·cases h9
   split at h9
   ·cases h9
   rename_i ha hb
   have hm:Cy i=[i.D]:=by unfold Cy;repeat rw[if_neg (by omega)]
   have htk:Gw i=i.Args:=by unfold Gw;(repeat rw[if_neg (by omega)]);rw[if_pos h28]
   rw[hm,htk] at hb
   simp only[not_or,Bool.not_eq_false] at hb
   have hD:=Vd hb.1 i.D (by simp)
   exact⟨hD.1,hD.2,by omega,Vd hb.2⟩
  ·have:=GH (hN x hx).2.2
   exact⟨this.1,this.2.2⟩
  ·intro k hk p hp
   have hb:=FP hg k hk p hp
   rw[Nat.zero_add] at hb
   unfold Ir at hb
   simp only[Bool.or_eq_false_iff,decide_eq_false_iff_not,Bool.not_eq_false',decide_eq_true_eq] at hb
   obtain⟨j,hj⟩:=CA (hN _ (Ax hk)).1 p hp
   unfold Lv at hj
   split at hj
   ·cases hj
   rename_i h5
   simp only[not_or,Bool.not_eq_false,Bool.not_eq_true] at h5
   have hD:=Vd h5.1 p.Dst (by simp)
   refine⟨by omega,hb.2,hD.1,hD.2,fun x hx=>?_⟩
   have h6:=h5.2
   unfold Hq at h6
   rw[List.any_eq_false] at h6
   have h7:=h6 x hx
   simp only[Bool.not_eq_true,Bool.not_eq_false'] at h7
   exact Vd h7 x.Val (by simp)
section
variable{m:D.MFunc}(hw:WFm m)
include hw
theorem WFm.from0:∀p∈(ix m.Blocks (Int.toNat 0)).Phis,Sm (-1) 8192 p:=by
 intro p hp
 have:=hw.phi 0 hw.n0.1 p hp
 omega
theorem WFm.from1{at' t:Int}(ha:0≤at'∧at'<m.Blocks.length)(ht:t∈(ix m.Blocks at'.toNat).End.To):(0≤t∧t<m.Blocks.length)∧∀p∈(ix m.Blocks t.toNat).Phis,Sm at' 8192 p:=by
 have h1:=(hw.to _ (Ax (l:=m.Blocks) (i:=Int.toNat at') (by omega))).2 t ht
 refine⟨by omega,fun p hp=>?_⟩
 obtain⟨h2,h3,h4,h5,h6⟩:=hw.phi t.toNat (by omega) p hp
 refine⟨h4,h5,?_,h6⟩
 have h7:at'∈p.In.map (·.From):=by
  rw[h3]
  unfold Qr Hl
  refine List.mem_map.2 ⟨Int.toNat at',List.mem_filter.2 ⟨List.mem_range.2 (by omega),?_⟩,by omega⟩
  rw[decide_eq_true_eq,show((Int.toNat t:Nat):Int)=t by omega];exact ht
 obtain⟨x,hx,hx2⟩:=List.mem_map.1 h7
 have h8:=Vw p.In (Ei at')
 have h9:Hq p.In (Ei at')=true:=List.any_eq_true.2 ⟨x,hx,by unfold Ei;rw[decide_eq_true_eq];exact hx2⟩
 rw[h9,decide_eq_true_eq] at h8
 exact h8
theorem WFm.goes{at':Int}(ha:0≤at'∧at'<m.Blocks.length)(rs:List Int)(h7:¬(ix m.Blocks at'.toNat).End.Op=7)(h8:¬(ix m.Blocks at'.toNat).End.Op=8) :
  0≤Dc (ix m.Blocks at'.toNat).End rs∧Dc (ix m.Blocks at'.toNat).End rs<(ix m.Blocks at'.toNat).End.To.length:=by
 have h1:=(hw.to _ (Ax (l:=m.Blocks) (i:=Int.toNat at') (by omega))).1
 generalize (ix m.Blocks at'.toNat).End=e at *
 unfold toM at h1
 rw[decide_eq_true_eq] at h1
 obtain⟨ho1,ho2,hl1,hl2⟩:=h1
 have hu:0≤u32 (Ab rs e.A):=by unfold u32;rw[IntKind.wrap_u32];omega
 unfold Lx at hl1
 unfold Ly at hl2
 unfold Dc
 have hc:e.Op=1∨e.Op=2∨e.Op=3∨e.Op=4∨e.Op=5∨e.Op=6:=by omega
 rcases hc with h|h|h|h|h|h<;>simp only[h] at hl1 hl2⊢<;> simp at hl1 hl2⊢<;> (repeat' split)<;>omega
end
theorem LM{m:D.MFunc}(hw:WFm m)(i:D.Input):(Nj m i).length=8192:=by
 have:=hw.p0
 unfold Nj
 simp only[List.length_append,List.length_take,List.length_drop,List.length_replicate];omega
theorem LK(i:D.Mach)(rs me:List Int):IntKind.i32.wrap (Au i rs me).1.1=(Au i rs me).1.1:=by
 have:∀(c:Prop) [Decidable c] (a b:(Int×Bool)×List Int×List Int),IntKind.i32.wrap a.1.1=a.1.1→IntKind.i32.wrap b.1.1=b.1.1→IntKind.i32.wrap (if c then a else b).1.1=(if c then a else b).1.1:=by intro c _ a b h1 h2;split<;>assumption
 unfold Au
 repeat' apply this
 all_goals first|exact(by decide:IntKind.i32.wrap 0=0)|exact(by decide:IntKind.i32.wrap (-1)=-1)|exact(by decide:IntKind.i32.wrap (-2)=-2)|(dsimp only;split<;>decide)
section
variable{N:Int}{K:List Int→List Int→List D.Event→List Int→Int→D.Outcome}{O:D.Outcome}{I:List D.Mach}{k j:Nat}{rs me an ea:List Int}{cl:List D.Event}{s:Int}
theorem Yw(hI:O=Dq N K (I.drop k) rs me cl an s)(hk:I.length≤k):O=K rs me cl an s:=by rw[hI,List.drop_of_length_le hk];rfl
theorem Tm(hI:O=Dq N K (I.drop k) rs me cl an s)(hk:k<I.length)(h:N≤s):O=⟨3,0,me,cl,s⟩:=by rw[hI,Dz hk,Dq,if_pos h]
theorem Tl(hI:O=Dq N K (I.drop k) rs me cl an s)(hk:k<I.length)(h:¬N≤s)(h2:¬(ix I k).Op=28)(h3:(Au (ix I k) rs me).1.2=false) :
 O=⟨2,(Au (ix I k) rs me).1.1,(Au (ix I k) rs me).2.2,cl,s+1⟩:=by rw[hI,Dz hk,Dq,if_neg h,if_neg h2,if_pos h3]
theorem K7(hI:O=Dq N K (I.drop k) rs me cl an s)(hk:k<I.length)(h:¬N≤s)(h2:¬(ix I k).Op=28)(h3:(Au (ix I k) rs me).1.2=true) :
 O=Dq N K (I.drop (k+1)) (Au (ix I k) rs me).2.1 (Au (ix I k) rs me).2.2 cl an (s+1):=by rw[hI,Dz hk,Dq,if_neg h,if_neg h2,if_neg (by rw[h3];decide)]
theorem K9(hI:O=Dq N K (I.drop k) rs me cl an s)(hk:k<I.length)(h:¬N≤s)(h2:(ix I k).Op=28)(hj:(ix I k).Args.length≤j)(hea:ea=((ix I k).Args.take j).map (fun r=>ix rs r.toNat))(h3:¬0<(an.length:Int)) :
  O=Dq N K (I.drop (k+1)) (List.set rs (Int.toNat (ix I k).D) 0) me (cl++[⟨(ix I k).Imm,ea⟩]) an (s+1):=by
 have:an=[]:=List.eq_nil_of_length_eq_zero (by omega)
 subst this
 rw[hI,Dz hk,Dq,if_neg h,if_pos h2,hea,List.take_of_length_le hj];rfl
theorem K8(hI:O=Dq N K (I.drop k) rs me cl an s)(hk:k<I.length)(h:¬N≤s)(h2:(ix I k).Op=28)(hj:(ix I k).Args.length≤j)(hea:ea=((ix I k).Args.take j).map (fun r=>ix rs r.toNat)) :
  O=Dq N K (I.drop (k+1)) (List.set (List.set rs (Int.toNat (ix I k).D) 0) (Int.toNat (ix I k).D) (ix an 0)) me (cl++[⟨(ix I k).Imm,ea⟩]) (an.drop 1) (s+1):=by
 rw[hI,Dz hk,Dq,if_neg h,if_pos h2,hea,List.take_of_length_le hj,List.set_set];rfl
end
section
variable{N:Int}{go:Int→List Int→List Int→List D.Event→List Int→Int→D.Outcome}{O:D.Outcome}{I:List D.Mach}{k:Nat}{rs me an:List Int}{cl:List D.Event}{s:Int}{e:D.End}
theorem Tx(hI:O=Dq N (Jb N e go) (I.drop k) rs me cl an s)(hk:I.length≤k)(h:N≤s):O=⟨3,0,me,cl,s⟩:=by rw[Yw hI hk,Jb,if_pos h]
theorem Ty(hI:O=Dq N (Jb N e go) (I.drop k) rs me cl an s)(hk:I.length≤k)(h:¬N≤s)(h7:e.Op=7):O=⟨1,Ab rs e.A,me,cl,s+1⟩:=by rw[Yw hI hk,Jb,if_neg h,if_pos h7]
theorem Tu(hI:O=Dq N (Jb N e go) (I.drop k) rs me cl an s)(hk:I.length≤k)(h:¬N≤s)(h7:¬e.Op=7)(h8:e.Op=8):O=⟨2,e.Imm,me,cl,s+1⟩:=by rw[Yw hI hk,Jb,if_neg h,if_neg h7,if_pos h8]
theorem YE(hI:O=Dq N (Jb N e go) (I.drop k) rs me cl an s)(hk:I.length≤k)(h:¬N≤s)(h7:¬e.Op=7)(h8:¬e.Op=8):O=go (ix e.To (Int.toNat (Dc e rs))) rs me cl an (s+1):=by rw[Yw hI hk,Jb,if_neg h,if_neg h7,if_neg h8]
end
theorem Sg{m:D.MFunc}{i:D.Input}(h:Nn m=false):Ii m i=⟨4,0,[],[],0⟩:=by unfold Ii;rw[if_pos h]
theorem AD{m:D.MFunc}{i:D.Input}(h:Nn m=true):Ii m i=Me m.Blocks i.Steps (Int.toNat i.Steps+1) 0 (-1) (Nj m i) (Ns i) [] i.Answers 0:=by unfold Ii;rw[if_neg (by rw[h];decide)]
abbrev U35:=@Tryz.underlying35
theorem A31:Ag9 Tryz.prog 31:=⟨_,Tryz.underlying31,rfl⟩
theorem A37:Ag9 Tryz.prog 37:=⟨_,Tryz.underlying37,rfl⟩
theorem A74:Ag9 Tryz.prog 74:=⟨_,Tryz.underlying74,rfl⟩
theorem E28:Ent Tryz.prog 28:=⟨_,Tryz.func28,by kernel_rfl,by kernel_rfl⟩
theorem E35:Ent Tryz.prog 35:=⟨_,Tryz.func35,by kernel_rfl,by kernel_rfl⟩
theorem E39:Ent Tryz.prog 39:=⟨_,Tryz.func39,by kernel_rfl,by kernel_rfl⟩
theorem E40:Ent Tryz.prog 40:=⟨_,Tryz.func40,by kernel_rfl,by kernel_rfl⟩
theorem E41:Ent Tryz.prog 41:=⟨_,Tryz.func41,by kernel_rfl,by kernel_rfl⟩
theorem E43:Ent Tryz.prog 43:=⟨_,Tryz.func43,by kernel_rfl,by kernel_rfl⟩
theorem Wj:Fld Tryz.prog 31 0 0:=⟨_,_,Tryz.underlying31,rfl,rfl,1,(by unfold Sz;kernel_rfl),by decide⟩
theorem Zw:Fld Tryz.prog 31 2 2:=⟨_,_,Tryz.underlying31,rfl,rfl,1,(by unfold Sz;kernel_rfl),by decide⟩
theorem Wi:Fld Tryz.prog 31 3 3:=⟨_,_,Tryz.underlying31,rfl,rfl,1,(by unfold Sz;kernel_rfl),by decide⟩
theorem Ob:Fld Tryz.prog 37 0 0:=⟨_,_,Tryz.underlying37,rfl,rfl,1,(by unfold Sz;kernel_rfl),by decide⟩
theorem Wh:Fld Tryz.prog 37 1 1:=⟨_,_,Tryz.underlying37,rfl,rfl,1,(by unfold Sz;kernel_rfl),by decide⟩
theorem Un:Fld Tryz.prog 37 2 2:=⟨_,_,Tryz.underlying37,rfl,rfl,1,(by unfold Sz;kernel_rfl),by decide⟩
theorem Rq:Fld Tryz.prog 37 3 3:=⟨_,_,Tryz.underlying37,rfl,rfl,1,(by unfold Sz;kernel_rfl),by decide⟩
theorem Mh:Fld Tryz.prog 37 4 4:=⟨_,_,Tryz.underlying37,rfl,rfl,1,(by unfold Sz;kernel_rfl),by decide⟩
theorem Zu:Fld Tryz.prog 74 1 1:=⟨_,_,Tryz.underlying74,rfl,rfl,1,(by unfold Sz;kernel_rfl),by decide⟩
theorem n4:Fld Tryz.prog 88 4 4:=⟨_,_,Tryz.underlying88,rfl,rfl,1,(by unfold Sz;kernel_rfl),by decide⟩
theorem I74:(Tryz.prog.info? 74).map (fun i=>(i.zero,i.size,i.bytes))=some (some (.agg #[.int .i32 0,.slice none 0 0]),2,32):=by kernel_rfl
theorem O35:One Tryz.prog 35:=⟨_,Tryz.underlying35,rfl⟩
theorem Z29:Sz Tryz.prog 29 1:=by unfold Sz;kernel_rfl
theorem Z31:Sz Tryz.prog 31 4:=by unfold Sz;kernel_rfl
theorem Z35:Sz Tryz.prog 35 1:=by unfold Sz;kernel_rfl
theorem Z37:Sz Tryz.prog 37 5:=by unfold Sz;kernel_rfl
theorem Z74:Sz Tryz.prog 74 2:=by unfold Sz;kernel_rfl
theorem J37:(Tryz.prog.info? 37).bind (·.zero)=some (.agg #[.int .i64 0,.int .i32 0,.slice none 0 0,.slice none 0 0,.int .i64 0]):=by kernel_rfl
theorem J74:(Tryz.prog.info? 74).bind (·.zero)=some (.agg #[.int .i32 0,.slice none 0 0]):=by kernel_rfl
theorem Vg(kd:Int)(x:Int){e0 v0 z0:Int}{m0 c0:Value}{g2:Nat}(om:m0.oneCell'=true)(oc:c0.oneCell'=true):Tr Tryz.prog 39 #[.int .i64 kd,.int .i32 x,.pointer (some ⟨g2,0,none⟩)] [] [bx g2 37 [.int .i64 e0,.int .i32 v0,m0,c0,.int .i64 z0]] (fun _:Unit => .agg #[.int .i64 kd,.int .i32 x,m0,c0,.int .i64 z0]) (fun _=>[]) (fun _ _=>[bx g2 37 [.int .i64 kd,.int .i32 x,m0,c0,.int .i64 z0]]):=by
 refine Af (args:=[.int .i64 kd,.int .i32 x,.pointer (some ⟨g2,0,none⟩)]) Tryz.func39 rfl rfl rfl fun w0 X=>?_
 refine jq (jr (Bg J37 Z fun g5=>jn (jx (jq (jr (jm Z (jm Z (js (jf Ob Z) (jst k1 Z3 Z Z Z s0 (js (jf Wh Z) ?_))))))))))
 refine jst k0 Z21 Z Z Z s1 (jn (jx (jq (jr (js (jla k0 A37 Z37 Z Z Z) (Az k1 Z37 Z Z Z ⟨Z,Z,om,oc,Z,trivial⟩ (saf Z) (jn (jx (jrt ?_)))))))))
 exact jrc Z Z k0 A37 Z37 () Z dn (fun _ _=>(kc k1 kn))
theorem CN{a0:Value}{m:D.MFunc}{a1a a1b a1c:Value}{i:D.Input}(hstp:i.Steps≤1000000):Ts Tryz.prog 12 #[vMFunc m a0,vInput i (a1a,a1b,a1c)] [da Bo (vMFunc m a0) m,da Cc (vInput i (a1a,a1b,a1c)) i] [] Ec vOutcome (Ii m i):=by
 refine Af (args:=[vMFunc m a0,vInput i (a1a,a1b,a1c)]) Tryz.func12 rfl rfl rfl fun w0 X=>?_
 refine jq (jr (Bj Z Z fun g2=>Bj Z Z fun g3=>Bg J37 Z fun g4=>jn (jx (jsc (jq (jq (jr (js (jla k2 A28 Z28 Z Z Z) ?_))))))))
 refine jcv E35 Z Z CP (dc d0 dn) kn (js (Dv Z) (jn (jx ?_)))
 refine jif Z (fun hc1=>?_) (fun hc1=>?_)
 refine jq (jr (js (jbu (v := .agg #[.int .i64 4,.int .i32 0,.slice none 0 0,.slice none 0 0,.int .i64 0]) Z (fun _=>by kernel_rfl)) (Az k0 Z37 Z Z Z ⟨Z,Z,Z,Z,Z,trivial⟩ (saf Z) (jn (jx (jrt (jtr (jso ?_))))))))
 exact Ky (val:=vOutcome) (b:=⟨4,0,[],[],0⟩) (c:=(.slice none 0 0,.slice none 0 0)) Z Z k0 A37 Z37 Z (by first|exact Sg (by simpa using hc1)|exact Tm hI (by omega) hc3|exact Tl hI (by omega) hc3 hc4 (by simpa using hc7)|exact Tx hI (by omega) hc8|exact Ty hI (by omega) hc8 hc9|exact Tu hI (by omega) hc8 hc9 hc10) (Ec.M (m:=⟨4,0,[],[],0⟩) (c:=(.slice none 0 0,.slice none 0 0)) wN wN (wl 4) (wl 0) (wl 0))
 have hR:Nn m=true:=by simpa using hc1
 have hW:=NL hR
 have hp0:=hW.p0
 have hn0:=hW.n0
 refine jsk (jx (jq (jr (js (jla k1 A31 Z31 Z Z Z) (jcg E28 Z Z CQ (dc d1 dn) kn fun v24 w1=>js (jbu (v := .agg #[.int .i64 0,.int .i32 0,v24,.slice none 0 0,.int .i64 0]) Z (fun _=>by obtain⟨_,_,_,rfl⟩:=w1;kernel_rfl)) (Bg J37 Z fun g5=>Az k0 Z37 Z Z Z ⟨Z,Z,w1.one,Z,Z,trivial⟩ (saf Z) (jn (jx (jq ?_)))))))))
 refine jr (jmk (m:=8192) (r:=(rI .i32)) U29 I21 Z Z Z Z Z (by omega) (wI (wp (by decide))) Z fun g26=>ja Z (jn (jx (jq (jtl 6 Bh (by kernel_rfl) (jt (jmv Z) (jt (jf S1 Z) (jt (jl k5 O3 Z Z) (jt (UE (hi:=(Int.toNat m.Params)) U29 Z21 k0 Z Z (by omega) (by rw[Sy];omega)) (jt (jf Wj Z) ?_))))))))))
 refine jt (jl k4 O29 Z Z) (jtt (jdq (Cc.c_Args d1) fun q2 w2=>UZ U29 I21 Z Z Z k0 (by rw[Sy];omega) (Cc.c_Args d1) (jn (jx (jq (jr (js (jf Zw Z) (js (jl k4 O29 Z Z) (ja Z (jn ?_))))))))))
 refine jx (jq (jr (js (Ou Z) (ja Z (jn (jx (jq (jr (ja Z (ja Z (jn ?_)))))))))))
 refine jx (jq (K1 (jx (jq (jb (cnl (r:=Eh) (E:=74) ?_))))))
 refine jlp (u10 fun(f:Nat) (ab:Int) (fb:Int) (rs:List Int) (me:List Int) (cl:List D.Event) (an:List Int) (s9:Int) (vc:Value) (va:Value)=>⟨0<f∧Ii m i=Me m.Blocks i.Steps f ab fb rs me cl an s9∧(0≤ab∧ab<m.Blocks.length)∧(∀p∈(ix m.Blocks ab.toNat).Phis,Sm fb 8192 p)∧rs.length=8192∧me.length≤4096∧0≤s9∧cl.length≤s9∧(s9≤i.Steps∨s9=0)∧i.Steps-s9<f,[da Bo (vMFunc m a0) m,da Cc (vInput i (a1a,a1b,a1c)) i,dv (rL (rI .i32)) va an],[gl X.n Eh 74 vc cl,gl X.n (rI .i32) 21 (.slice (some ⟨g26,0,none⟩) 8192 8192) rs,bx g5 37 [.int .i64 0,.int .i32 0,v24,vc,.int .i64 s9],gl X.n (rI .i32) 21 v24 me,bx g4 37 [.int .i64 0,.int .i32 0,.slice none 0 0,.slice none 0 0,.int .i64 0],bx g3 31 [a1a,a1b,a1c,.int .i64 i.Steps],bx g2 28 [.int .i64 m.Params,a0]],[(2,.pointer (some ⟨g2,0,none⟩)),(3,.pointer (some ⟨g3,0,none⟩)),(4,.pointer (some ⟨g4,0,none⟩)),(5,.pointer (some ⟨g5,0,none⟩)),(6,(.slice (some ⟨g26,0,none⟩) 8192 8192)),(7,va),(8,.func (.func 39) #[] #[.pointer (some ⟨g5,0,none⟩)]),(9,.int .i64 ab),(10,.int .i64 fb)],f⟩) (Int.toNat i.Steps+1,0,(-1),Nj m i,Ns i,[],i.Answers,0,.slice none 0 0,a1c) ⟨by dsimp only;omega,AD hR,by dsimp only;omega,hW.from0,LM hW i,DO i,Int.le_refl _,by simp,by dsimp only;omega,by dsimp only;omega⟩ (dc d0 (dc d1 (dc (Cc.c_Answers d1) dn))) (kd (kd (kd (kc k0 kn)))) ⟨Z,Z,Z,Z,Z,Z,Z,Z,Z,trivial⟩ ?_
 rintro⟨f,ab,fb,rs,me,cl,an,s9,vc,va⟩;dsimp only[u10];rintro⟨hf,hrun,hat,hfr,hrl,hml,hs0,hcl,hst,hfu⟩
 refine cgo k0 fun w4=>cdq d2 fun q5 w5=>jb (jq (jr (js (jf Lg Z) (js (jl k6 O26 Z Z) (jm Z (jdq (Bo.cB d0) fun q6 w6=>js (jix (i:=ab.toNat) U26 Z95 (Bo.cB d0) Z Z (by omega) (by omega)) (jA3 Vc (jlA (dix (Bo.cB d0) ab.toNat (by omega)) A95 Z95 Z) fun c41a c41b c41c=>Bg J95 Z fun g11=>?_)))))))
 refine jdq (Av.cP d0) fun q8 w8=>jdq (Av.cI d0) fun q9 w9=>jdq (Av.cT d0) fun q10 w10=>Az k0 Z95 Z Z Z ⟨w8.one,w9.one,Z,Z,Z,w10.one,Z,trivial⟩ (saf Z) (jn (jx (jq (jr (js (jf Ro Z) (js (jl k0 O57 Z Z) (jm Z (jm Z ?_))))))))
 refine jc E40 Z Z (QE fb (by omega) (by rw[hrl];exact hfr)) (dc (Av.cP d0) dn) (kc k2 kn) (fun _=>p0) (fun _=>p1) fun _=>jn (jx (jq (jq (jr (js (jf Wg Z) (js (jl k1 O93 Z Z) (js (jln U93 (Av.cI d0) Z) (jm Z (jn (jx ?_))))))))))
 refine jb ?_
 refine jlp (u8 fun(k:Nat) (rs2:List Int) (me2:List Int) (cl2:List D.Event) (an2:List Int) (s2:Int) (vc2:Value) (va2:Value)=>⟨k≤(ix m.Blocks ab.toNat).Ins.length∧Ii m i=Dq i.Steps (Jb i.Steps (ix m.Blocks ab.toNat).End (fun t=>Me m.Blocks i.Steps (f-1) t ab)) ((ix m.Blocks ab.toNat).Ins.drop k) rs2 me2 cl2 an2 s2∧rs2.length=8192∧me2.length≤4096∧s9≤s2∧cl2.length≤s2∧(s2≤i.Steps∨s2=0),[da Av (vMBlock (ix m.Blocks ab.toNat) (c41a,c41b,c41c)) (ix m.Blocks ab.toNat),da Bo (vMFunc m a0) m,da Cc (vInput i (a1a,a1b,a1c)) i,dv (rL (rI .i32)) va2 an2],[gl X.n (rI .i32) 21 (.slice (some ⟨g26,0,none⟩) 8192 8192) rs2,bx g11 95 [c41a,c41b,.int .i64 (((ix m.Blocks ab.toNat).End).Op),.int .i64 (((ix m.Blocks ab.toNat).End).A),.int .i64 (((ix m.Blocks ab.toNat).End).B),c41c,.int .i32 (((ix m.Blocks ab.toNat).End).Imm)],gl X.n Eh 74 vc2 cl2,bx g5 37 [.int .i64 0,.int .i32 0,v24,vc2,.int .i64 s2],gl X.n (rI .i32) 21 v24 me2,bx g4 37 [.int .i64 0,.int .i32 0,.slice none 0 0,.slice none 0 0,.int .i64 0],bx g3 31 [a1a,a1b,a1c,.int .i64 i.Steps],bx g2 28 [.int .i64 m.Params,a0]],[(2,.pointer (some ⟨g2,0,none⟩)),(3,.pointer (some ⟨g3,0,none⟩)),(4,.pointer (some ⟨g4,0,none⟩)),(5,.pointer (some ⟨g5,0,none⟩)),(6,(.slice (some ⟨g26,0,none⟩) 8192 8192)),(7,va2),(8,.func (.func 39) #[] #[.pointer (some ⟨g5,0,none⟩)]),(9,.int .i64 ab),(10,.int .i64 fb),(11,.pointer (some ⟨g11,0,none⟩)),(48,c41b),(49,.int .i64 (↑(List.length ((ix m.Blocks ab.toNat).Ins)))),(50,.int .i64 (↑k))],(ix m.Blocks ab.toNat).Ins.length-k⟩) (0,Nr ((ix m.Blocks ab.toNat).Phis) fb rs,me,cl,an,s9,vc,va) ⟨by dsimp only;omega,by dsimp only;rw[hrun,O6 hf];rfl,by dsimp only;rw[PT];exact hrl,hml,by dsimp only;omega,hcl,hst⟩ (dc d0 (dc d1 (dc d2 (dc d3 dn)))) (kd (kd (kd (kd kn)))) ⟨Z,Z,Z,Z,Z,Z,Z,Z,Z,Z,Z,Z,eqI (by omega),trivial⟩ ?_
 rintro⟨k,rs2,me2,cl2,an2,s2,vc2,va2⟩;dsimp only[u8];rintro⟨hk,hI,hrl2,hml2,hss,hcl2,hst2⟩
 refine cgo k2 fun w12=>cdq d3 fun q13 w13=>jq (jr (js (Ai Z Z) (jn (jx (jq ?_)))))
 refine jif Z (fun hc2=>?_) (fun hc2=>?_)
 refine jsk (jx (jq (jb (jq (jr (js (jix U93 Z24 (Av.cI d0) Z Z Z (by omega)) (jA Z9 (jlA (dix (Av.cI d0) k (by omega)) A24 Z24 Z) fun c53=>Bg J24 Z fun g13=>jdq (Al.c_Args d0) fun q15 w15=>Az k0 Z24 Z Z Z ⟨Z,Z,Z,Z,Z,Z,Z,w15.one,trivial⟩ (saf Z) (jn ?_))))))))
 refine jx (jq (jq (jr (js (jf Mh Z) (js (jl k4 O3 Z Z) (js (jf Wi Z) (js (jl k7 O3 Z Z) (js (Eo Z Z) (jn (jx ?_))))))))))
 refine jif Z (fun hc3=>?_) (fun hc3=>?_)
 refine jex (jtx (jbo (jtx (jtx (jbo (jtx (jbo (jtx (jbh (jx (jq ?_)))))))))))
 refine jr (jm Z (jc E39 Z Z (Vg 3 0 w1.one w12.one) dn (kc k4 kn) (fun _=>p0) (fun _=>p1) fun _=>Az k6 Z37 Z Z Z ⟨Z,Z,w1.one,w12.one,Z,trivial⟩ (saf Z) (jn (jx (jrt (jso (qfz k6 (by first|omega|(rw[(Mj _ _ _).2];omega)) (qfz k5 (by omega) ?_))))))))
 exact Ky (val:=vOutcome) (b:=⟨3,0,me2,cl2,s2⟩) (c:=(v24,vc2)) Z Z k0 A37 Z37 Z (by first|exact Sg (by simpa using hc1)|exact Tm hI (by omega) hc3|exact Tl hI (by omega) hc3 hc4 (by simpa using hc7)|exact Tx hI (by omega) hc8|exact Ty hI (by omega) hc8 hc9|exact Tu hI (by omega) hc8 hc9 hc10) (Ec.M (m:=⟨3,0,me2,cl2,s2⟩) (c:=(v24,vc2)) d1 d0 (wl 3) (wl 0) (wp (IntWalk.i64_in s2 (by omega))))
 have hNi:=hc3
 refine jsk (jx (jq (jr (js (jf Mh Z) (js (jl k4 O3 Z Z) (js (Ac Z Z (by omega)) (js (jf Mh Z) (jst k4 Z3 Z Z Z s4 (jn (jx (jq ?_)))))))))))
 refine jq (jr (js (jf Fk Z) (js (jl k1 O3 Z Z) (js (Aj Z Z) (jn (jx ?_))))))
 refine jif Z (fun hc4=>?_) (fun hc4=>?_)
 have h28:=hc4
 have hi28:=hW.ins _ (Ax (l:=m.Blocks) (i:=Int.toNat ab) (by omega)) _ (Ax (l:=(ix m.Blocks ab.toNat).Ins) (i:=k) (by omega)) hc4
 obtain⟨hD0,hD1,hA4,hAr⟩:=hi28
 refine jq (jr (js (jf Lh Z) (js (jl k1 O21 Z Z) (js (jbu (v := .agg #[.int .i32 ((ix ((ix m.Blocks ab.toNat).Ins) k).Imm),.slice none 0 0]) Z (fun _=>by kernel_rfl)) (Bg J74 Z fun g14=>Az k0 Z74 Z Z Z ⟨Z,Z,trivial⟩ (saf Z) (jn (jx (jq (jq (jr ?_))))))))))
 refine js (jf S2 Z) (js (jl k2 O22 Z Z) (js (jln U22 (Al.c_Args d0) Z) (jm Z (jn (jx (jb (cnl (r:=(rI .i32)) (E:=21) ?_)))))))
 refine jlp (u3 fun(j:Nat) (ea:List Int) (ve:Value)=>⟨j≤(ix (ix m.Blocks ab.toNat).Ins k).Args.length∧ea=((ix (ix m.Blocks ab.toNat).Ins k).Args.take j).map (fun r=>ix rs2 r.toNat),[da Al (vMach (ix ((ix m.Blocks ab.toNat).Ins) k) c53) (ix ((ix m.Blocks ab.toNat).Ins) k),da Av (vMBlock (ix m.Blocks ab.toNat) (c41a,c41b,c41c)) (ix m.Blocks ab.toNat),da Bo (vMFunc m a0) m,da Cc (vInput i (a1a,a1b,a1c)) i,dv (rL (rI .i32)) va2 an2],[gl X.n (rI .i32) 21 ve ea,bx g14 74 [.int .i32 ((ix ((ix m.Blocks ab.toNat).Ins) k).Imm),ve],bx g5 37 [.int .i64 0,.int .i32 0,v24,vc2,.int .i64 (s2+1)],bx g13 24 [.int .i64 ((ix ((ix m.Blocks ab.toNat).Ins) k).Op),.int .i64 ((ix ((ix m.Blocks ab.toNat).Ins) k).D),.int .i64 ((ix ((ix m.Blocks ab.toNat).Ins) k).E),.int .i64 ((ix ((ix m.Blocks ab.toNat).Ins) k).A),.int .i64 ((ix ((ix m.Blocks ab.toNat).Ins) k).B),.int .i64 ((ix ((ix m.Blocks ab.toNat).Ins) k).C),.int .i32 ((ix ((ix m.Blocks ab.toNat).Ins) k).Imm),c53],gl X.n (rI .i32) 21 (.slice (some ⟨g26,0,none⟩) 8192 8192) rs2,bx g11 95 [c41a,c41b,.int .i64 (((ix m.Blocks ab.toNat).End).Op),.int .i64 (((ix m.Blocks ab.toNat).End).A),.int .i64 (((ix m.Blocks ab.toNat).End).B),c41c,.int .i32 (((ix m.Blocks ab.toNat).End).Imm)],gl X.n Eh 74 vc2 cl2,gl X.n (rI .i32) 21 v24 me2,bx g4 37 [.int .i64 0,.int .i32 0,.slice none 0 0,.slice none 0 0,.int .i64 0],bx g3 31 [a1a,a1b,a1c,.int .i64 i.Steps],bx g2 28 [.int .i64 m.Params,a0]],[(2,.pointer (some ⟨g2,0,none⟩)),(3,.pointer (some ⟨g3,0,none⟩)),(4,.pointer (some ⟨g4,0,none⟩)),(5,.pointer (some ⟨g5,0,none⟩)),(6,(.slice (some ⟨g26,0,none⟩) 8192 8192)),(7,va2),(8,.func (.func 39) #[] #[.pointer (some ⟨g5,0,none⟩)]),(9,.int .i64 ab),(10,.int .i64 fb),(11,.pointer (some ⟨g11,0,none⟩)),(13,.pointer (some ⟨g13,0,none⟩)),(14,.pointer (some ⟨g14,0,none⟩)),(48,c41b),(49,.int .i64 (↑(List.length ((ix m.Blocks ab.toNat).Ins)))),(50,.int .i64 (↑k)),(70,c53),(71,.int .i64 (↑(List.length ((ix ((ix m.Blocks ab.toNat).Ins) k).Args)))),(72,.int .i64 (↑j))],(ix (ix m.Blocks ab.toNat).Ins k).Args.length-j⟩) (0,[],.slice none 0 0) ⟨by dsimp only;omega,rfl⟩ (dc d0 (dc d1 (dc d2 (dc d3 (dc d4 dn))))) (kd (kd (kd (kd (kd (kc k0 kn)))))) ⟨Z,Z,Z,Z,Z,Z,Z,Z,Z,Z,Z,Z,Z,Z,Z,Z,Z,eqI (by omega),trivial⟩ ?_
 rintro⟨j,ea,ve⟩;dsimp only[u3];rintro⟨hj,hea⟩
 refine cgo k0 fun w18=>?_
 have hel:ea.length=j:=by rw[hea];simp;omega
 refine jq (jr (js (Ai Z Z) (jn (jx (jq ?_)))))
 refine jif Z (fun hc5=>?_) (fun hc5=>?_)
 have har:=hAr _ (Ax (l:=(ix (ix m.Blocks ab.toNat).Ins k).Args) (i:=j) (by omega))
 refine jsk (jx (jq (jb (jq (jr (js (jix U22 Z3 (Al.c_Args d0) Z Z Z (by omega)) (js (jlI (dix (Al.c_Args d0) j (by omega)) O3 Z) (ja Z (jn (jx (Cp true (.a 0 (.a 1 (.a 2 (.a 3 (.a 4 (.a 5 (.o 6 (.o 7 (.a 8 (.o 9 .e)))))))))) Bh (by kernel_rfl) (kc k1 (kc k3 kn)) fun F19=>?_)))))))))))
 refine jy Z (jf Zu Z) (jy Z (jl k0 O29 Z Z) (jy Z (jmv Z) (jy Z (jmv Z) (jy Z (jig (i:=(Int.toNat (ix ((ix ((ix m.Blocks ab.toNat).Ins) k).Args) j))) U29 Z21 k1 Z Z (by omega) (by omega)) (jy Z (jgI k1 (by omega) O21 Z) (jyo Z (Ba (r:=(rI .i32)) (l:=[ix rs2 (Int.toNat (ix ((ix ((ix m.Blocks ab.toNat).Ins) k).Args) j))]) U29 I21 (by decide) Z Z Z (lV Z Z (wI (wgl k4 (by omega))) ln) fun g82=>jyn d0 (kc k2 (kc k4 kn)) (jyo Z (jfz k0 (by(try simp)<;>omega) (Ev U29 I21 (by decide) Z k0 Z Z d0 (by(try simp)<;>omega) fun v83 w23=>?_))))))))))
 refine jyn d1 (kc k1 (kc k3 kn)) (jy Z (jf Zu Z) (jyo Z (jst k1 Z29 Z Z w23.one s1 (jyz d0 (jyd (jbn (jx (jr (js (Ac Z Z (by omega)) (jm Z (jn ?_)))))))))))
 exact jag (j+1,ea++([ix rs2 (Int.toNat (ix ((ix ((ix m.Blocks ab.toNat).Ins) k).Args) j))]),v83) ⟨by dsimp only;omega,by dsimp only;rw[hea,Ff (by omega),List.map_append];rfl⟩ (dc d4 (dc d5 (dc d6 (dc d7 (dc d8 dn))))) (kc k1 (kd (kd (kd (kd (kd kn)))))) ⟨Z,Z,Z,Z,Z,Z,Z,Z,Z,Z,Z,Z,Z,Z,Z,Z,Z,eqI (by omega),trivial⟩
 have hja:(ix (ix m.Blocks ab.toNat).Ins k).Args.length≤j:=by omega
 refine jex (jtx (jtx (jbh (jx (jq (jr (js (jf Rq Z) (js (jl k2 O35 Z Z) (js (jla k1 A74 Z74 Z Z Z) (jfz k0 (by omega) (jap U35 I74 (by decide) Z k5 Z (Eh.M (m:=⟨(ix ((ix m.Blocks ab.toNat).Ins) k).Imm,ea⟩) (c:=ve) d0 (Al.W_Imm d1)) (by omega) (fun _=>Z) fun v90 _ w26=>?_)))))))))))
 refine js (jf Rq Z) (jst k2 Z35 Z Z w26.one s3 (jn (jx (jq (jr (jm Z (js (jf Uo Z) (js (jl k3 O3 Z Z) (js (jig (i:=(Int.toNat ((ix ((ix m.Blocks ab.toNat).Ins) k).D))) U29 Z21 k4 Z Z (by omega) (by omega)) (jsg k4 Z Z21 Z Z Z (by omega) (wI (wl 0)) (jn ?_)))))))))))
 refine jx (jq (jq (jr (jm Z (js (jln U29 d5 Z) (js (Fi Z Z) (jn (jx ?_))))))))
 refine jif Z (fun hc6=>?_) (fun hc6=>?_)
 refine Cp false (.a 0 (.a 1 (.a 2 (.a 3 (.a 4 (.a 5 (.a 6 (.a 7 (.o 8 (.o 9 (.a 10 .e))))))))))) Bh (by kernel_rfl) (kc k4 kn) fun F27=>jy Z (jmv Z) (jy Z (jf Uo Z) (jy Z (jl k0 O3 Z Z) (jy Z (jmv Z) (jy Z (jix (i:=0) U29 Z21 d5 Z Z Z (by omega)) (jy Z (jlI (dix d5 0 (by omega)) O21 Z) (jy Z (jmv Z) (jy Z (Lz (lo:=1) U29 Z21 d5 Z Z Z (by omega)) (jyo Z (js (jig (i:=(Int.toNat ((ix ((ix m.Blocks ab.toNat).Ins) k).D))) U29 Z21 k0 Z Z (by omega) (by first|omega|(simp<;>omega))) (jyn d0 (kc k4 kn) ?_))))))))))
 refine jyo Z (jsg k0 Z Z21 Z Z Z (by first|omega|(simp<;>omega)) (wI (wad (dix d7 0 (by omega)))) (jyn d0 (kc k4 kn) (jy Z (jas Z) (jyd (jx (jex (jtx (jbh (jx (jr (js (Ac Z Z (by omega)) ?_)))))))))))
 refine jm Z (jn ?_)
 exact jag (k+1,List.set (List.set rs2 (Int.toNat ((ix ((ix m.Blocks ab.toNat).Ins) k).D)) 0) (Int.toNat ((ix ((ix m.Blocks ab.toNat).Ins) k).D)) (ix an2 0),me2,cl2++[⟨(ix ((ix m.Blocks ab.toNat).Ins) k).Imm,ea⟩],List.drop 1 an2,s2+1,v90,(resl 1 va2 1 an2.length)) ⟨by dsimp only;omega,by dsimp only;first|exact K9 hI (by omega) hNi h28 hja hea (by omega)|exact K8 hI (by omega) hNi h28 hja hea|exact K7 hI (by omega) hNi h28 hdo,by dsimp only;first|(rw[List.length_set,List.length_set];exact hrl2)|(rw[List.length_set];exact hrl2)|(rw[(Mj _ _ _).1];exact hrl2),by dsimp only;first|exact hml2|(rw[(Mj _ _ _).2];exact hml2),by dsimp only;omega,by dsimp only;first|(rw[List.length_append];simp;omega)|omega,by dsimp only;omega⟩ (dc d4 (dc d5 (dc d6 (dc (dlo d7 1 (by omega) (by omega)) dn)))) (kc k0 (kc k4 (kc k1 (kc k0 (kc k2 (kc k2 (kc k2 (kc k2 kn)))))))) ⟨Z,Z,Z,Z,Z,Z,Z,Z,Z,Z,Z,Z,eqI (by omega),trivial⟩
 refine jsk (jx (jex (jtx (jbh (jx (jr (js (Ac Z Z (by omega)) (jm Z (jn ?_)))))))))
 exact jag (k+1,List.set rs2 (Int.toNat ((ix ((ix m.Blocks ab.toNat).Ins) k).D)) 0,me2,cl2++[⟨(ix ((ix m.Blocks ab.toNat).Ins) k).Imm,ea⟩],an2,s2+1,v90,va2) ⟨by dsimp only;omega,by dsimp only;first|exact K9 hI (by omega) hNi h28 hja hea (by omega)|exact K8 hI (by omega) hNi h28 hja hea|exact K7 hI (by omega) hNi h28 hdo,by dsimp only;first|(rw[List.length_set,List.length_set];exact hrl2)|(rw[List.length_set];exact hrl2)|(rw[(Mj _ _ _).1];exact hrl2),by dsimp only;first|exact hml2|(rw[(Mj _ _ _).2];exact hml2),by dsimp only;omega,by dsimp only;first|(rw[List.length_append];simp;omega)|omega,by dsimp only;omega⟩ (dc d2 (dc d3 (dc d4 (dc d5 dn)))) (kc k0 (kc k4 (kc k1 (kc k0 (kc k2 (kc k2 (kc k2 (kc k2 kn)))))))) ⟨Z,Z,Z,Z,Z,Z,Z,Z,Z,Z,Z,Z,eqI (by omega),trivial⟩
 have h28:=hc4
 refine jsk (jx (jq (jr (js (jla k1 A24 Z24 Z Z Z) (jm Z (js (jf Un Z) (js (jl k0 O29 Z Z) (jc E41 Z Z (QT (by omega) (by omega)) (dc d0 dn) (kc k2 (kc k4 kn)) (fun _=>p0) (fun _=>p2) fun _=>jm Z (js (Be Z Z) (js (Be Z Z) ?_))))))))))
 refine ja Z (ja Z (jn (jx (jq (jr (jm Z (js (Dv Z) (jn (jx ?_)))))))))
 refine jif Z (fun hc7=>?_) (fun hc7=>?_)
 refine jq (jr (jm Z (jm Z (jc E39 Z Z (Vg 2 ((Au (ix ((ix m.Blocks ab.toNat).Ins) k) rs2 me2).1.1) w1.one w12.one) dn (kc k2 kn) (fun _=>p0) (fun _=>p1) fun _=>Az k6 Z37 Z Z Z ⟨Z,Z,w1.one,w12.one,Z,trivial⟩ (saf Z) (jn (jx (jrt (jbr (jtr (jtr ?_))))))))))
 refine jbr (jtr (jbr (jtr (jbr (jtr (jso (qfz k3 (by first|omega|(rw[(Mj _ _ _).2];omega)) (qfz k5 (by omega) ?_))))))))
 exact Ky (val:=vOutcome) (b:=⟨2,(Au (ix ((ix m.Blocks ab.toNat).Ins) k) rs2 me2).1.1,(Au (ix ((ix m.Blocks ab.toNat).Ins) k) rs2 me2).2.2,cl2,s2+1⟩) (c:=(v24,vc2)) Z Z k0 A37 Z37 Z (by first|exact Sg (by simpa using hc1)|exact Tm hI (by omega) hc3|exact Tl hI (by omega) hc3 hc4 (by simpa using hc7)|exact Tx hI (by omega) hc8|exact Ty hI (by omega) hc8 hc9|exact Tu hI (by omega) hc8 hc9 hc10) (Ec.M (m:=⟨2,(Au (ix ((ix m.Blocks ab.toNat).Ins) k) rs2 me2).1.1,(Au (ix ((ix m.Blocks ab.toNat).Ins) k) rs2 me2).2.2,cl2,s2+1⟩) (c:=(v24,vc2)) d1 d0 (wl 2) (wp (LK (ix ((ix m.Blocks ab.toNat).Ins) k) rs2 me2)) (wp (IntWalk.i64_in (s2+1) (by omega))))
 have hdo:(Au (ix (ix m.Blocks ab.toNat).Ins k) rs2 me2).1.2=true:=by simpa using hc7
 refine jsk (jbn (jx (jr (js (Ac Z Z (by omega)) (jm Z (jn ?_))))))
 exact jag (k+1,(Au (ix ((ix m.Blocks ab.toNat).Ins) k) rs2 me2).2.1,(Au (ix ((ix m.Blocks ab.toNat).Ins) k) rs2 me2).2.2,cl2,an2,s2+1,vc2,va2) ⟨by dsimp only;omega,by dsimp only;first|exact K9 hI (by omega) hNi h28 hja hea (by omega)|exact K8 hI (by omega) hNi h28 hja hea|exact K7 hI (by omega) hNi h28 hdo,by dsimp only;first|(rw[List.length_set,List.length_set];exact hrl2)|(rw[List.length_set];exact hrl2)|(rw[(Mj _ _ _).1];exact hrl2),by dsimp only;first|exact hml2|(rw[(Mj _ _ _).2];exact hml2),by dsimp only;omega,by dsimp only;first|(rw[List.length_append];simp;omega)|omega,by dsimp only;omega⟩ (dc d1 (dc d2 (dc d3 (dc d4 dn)))) (kc k0 (kc k3 (kc k3 (kc k1 (kc k0 (kc k1 (kc k1 (kc k1 kn)))))))) ⟨Z,Z,Z,Z,Z,Z,Z,Z,Z,Z,Z,Z,eqI (by omega),trivial⟩
 refine jex (jtx (jtx (jbh (jx (jq (jq (jr (js (jf Mh Z) (js (jl k3 O3 Z Z) (js (jf Wi Z) (js (jl k6 O3 Z Z) ?_)))))))))))
 refine js (Eo Z Z) (jn (jx ?_))
 refine jif Z (fun hc8=>?_) (fun hc8=>?_)
 refine jex (jtx (jbo (jtx (jbh (jx (jq (jr (jm Z (jc E39 Z Z (Vg 3 0 w1.one w12.one) dn (kc k3 kn) (fun _=>p0) (fun _=>p1) fun _=>Az k5 Z37 Z Z Z ⟨Z,Z,w1.one,w12.one,Z,trivial⟩ (saf Z) (jn ?_))))))))))
 refine jx (jrt (jso (qfz k5 (by first|omega|(rw[(Mj _ _ _).2];omega)) (qfz k4 (by omega) ?_))))
 exact Ky (val:=vOutcome) (b:=⟨3,0,me2,cl2,s2⟩) (c:=(v24,vc2)) Z Z k0 A37 Z37 Z (by first|exact Sg (by simpa using hc1)|exact Tm hI (by omega) hc3|exact Tl hI (by omega) hc3 hc4 (by simpa using hc7)|exact Tx hI (by omega) hc8|exact Ty hI (by omega) hc8 hc9|exact Tu hI (by omega) hc8 hc9 hc10) (Ec.M (m:=⟨3,0,me2,cl2,s2⟩) (c:=(v24,vc2)) d1 d0 (wl 3) (wl 0) (wp (IntWalk.i64_in s2 (by omega))))
 have hNe:=hc8
 refine jsk (jx (jq (jr (js (jf Mh Z) (js (jl k3 O3 Z Z) (js (Ac Z Z (by omega)) (js (jf Mh Z) (jst k3 Z3 Z Z Z s4 (jn (jx (jq ?_)))))))))))
 refine jq (jr (js (jf Pe Z) (js (jf Jt Z) (js (jl k2 O3 Z Z) (jn (jx (jb (jq (jr (js (Aj Z Z) (ja Z ?_)))))))))))
 refine jn (jx ?_)
 refine jif Z (fun hc9=>?_) (fun hc9=>?_)
 refine jq (jr (jm Z (jm Z (js (jf Pe Z) (js (jf Oa Z) (js (jl k2 O3 Z Z) (jc E42 Z Z (Tv.temp 1073741824 (So (((ix m.Blocks ab.toNat).End).A)) (by omega)) dn (kc k1 kn) (fun _=>p0) (fun _=>p1) fun _=>jc E39 Z Z (Vg 1 (Ab rs2 (((ix m.Blocks ab.toNat).End).A)) w1.one w12.one) dn (kc k1 kn) (fun _=>p0) (fun _=>p1) fun _=>Az k5 Z37 Z Z Z ⟨Z,Z,w1.one,w12.one,Z,trivial⟩ (saf Z) (jn (jx ?_)))))))))
 refine jrt (jbr (jtr (jbr (jtr (jbr (jtr (jso (qfz k5 (by first|omega|(rw[(Mj _ _ _).2];omega)) (qfz k4 (by omega) ?_)))))))))
 exact Ky (val:=vOutcome) (b:=⟨1,Ab rs2 (((ix m.Blocks ab.toNat).End).A),me2,cl2,s2+1⟩) (c:=(v24,vc2)) Z Z k0 A37 Z37 Z (by first|exact Sg (by simpa using hc1)|exact Tm hI (by omega) hc3|exact Tl hI (by omega) hc3 hc4 (by simpa using hc7)|exact Tx hI (by omega) hc8|exact Ty hI (by omega) hc8 hc9|exact Tu hI (by omega) hc8 hc9 hc10) (Ec.M (m:=⟨1,Ab rs2 (((ix m.Blocks ab.toNat).End).A),me2,cl2,s2+1⟩) (c:=(v24,vc2)) d1 d0 (wl 1) (wgt k2 (((ix m.Blocks ab.toNat).End).A)) (wp (IntWalk.i64_in (s2+1) (by omega))))
 have h7:=hc9
 refine jq (jr (js (Aj Z Z) (ja Z (jn (jx ?_)))))
 refine jif Z (fun hc10=>?_) (fun hc10=>?_)
 refine jq (jr (jm Z (js (jf Pe Z) (js (jf n4 Z) (js (jl k2 O21 Z Z) (jc E39 Z Z (Vg 2 (((ix m.Blocks ab.toNat).End).Imm) w1.one w12.one) dn (kc k0 kn) (fun _=>p0) (fun _=>p1) fun _=>Az k5 Z37 Z Z Z ⟨Z,Z,w1.one,w12.one,Z,trivial⟩ (saf Z) (jn (jx (jrt (jbr ?_))))))))))
 refine jtr (jbr (jtr (jbr (jtr (jso (qfz k5 (by first|omega|(rw[(Mj _ _ _).2];omega)) (qfz k4 (by omega) ?_)))))))
 exact Ky (val:=vOutcome) (b:=⟨2,((ix m.Blocks ab.toNat).End).Imm,me2,cl2,s2+1⟩) (c:=(v24,vc2)) Z Z k0 A37 Z37 Z (by first|exact Sg (by simpa using hc1)|exact Tm hI (by omega) hc3|exact Tl hI (by omega) hc3 hc4 (by simpa using hc7)|exact Tx hI (by omega) hc8|exact Ty hI (by omega) hc8 hc9|exact Tu hI (by omega) hc8 hc9 hc10) (Ec.M (m:=⟨2,((ix m.Blocks ab.toNat).End).Imm,me2,cl2,s2+1⟩) (c:=(v24,vc2)) d1 d0 (wl 2) (Av.W_End_Imm d2) (wp (IntWalk.i64_in (s2+1) (by omega))))
 have h8:=hc10
 have htm:=Ax (l:=(ix m.Blocks ab.toNat).End.To) (i:=Int.toNat (Dc (ix m.Blocks ab.toNat).End rs2)) (by have:=hW.goes hat rs2 hc9 hc10;omega)
 refine jsk (jbn (jx (Cp false (.a 0 (.a 1 (.a 2 (.a 3 (.a 4 (.a 5 (.a 6 (.o 7 (.a 8 (.a 9 (.a 10 (.a 11 .e)))))))))))) Bh (by kernel_rfl) (kc k2 kn) fun F38=>jy Z (jmv Z) (jy Z (jf Pe Z) (jy Z (jf Nz Z) (jy Z (jl k0 O22 Z Z) (jy Z (jf Pe Z) (jy Z (jla k0 A88 Z88 Z Z Z) (jy Z (jmv Z) (jyo Z ?_))))))))))
 refine jc E43 Z Z (Tv.temp1 1073741824 QQ (by omega)) (dc (Av.P_End d1) dn) (kc k1 kn) (fun _=>p0) (fun _=>p1) fun _=>jyn d0 (kc k2 kn) ?_
 have hgo:0≤Dc ((ix m.Blocks ab.toNat).End) rs2∧Dc ((ix m.Blocks ab.toNat).End) rs2<(ix m.Blocks ab.toNat).End.To.length:=hW.goes hat rs2 hc9 hc10
 refine jy Z (jix (i:=(Int.toNat (Dc ((ix m.Blocks ab.toNat).End) rs2))) U22 Z3 (Av.cT d0) Z Z (by omega) (by omega)) (jy Z (jlI (dix (Av.cT d0) (Int.toNat (Dc ((ix m.Blocks ab.toNat).End) rs2)) (by omega)) O3 Z) (jy Z (jas Z) (jy Z (jas Z) (jyd (jbn ?_)))))
 exact jag (f-1,ix (((ix m.Blocks ab.toNat).End).To) (Int.toNat (Dc ((ix m.Blocks ab.toNat).End) rs2)),ab,rs2,me2,cl2,an2,s2+1,vc2,va2) ⟨by dsimp only;omega,YE hI (by omega) hNe h7 h8,by dsimp only;exact(hW.from1 hat htm).1,by dsimp only;exact(hW.from1 hat htm).2,hrl2,hml2,by dsimp only;omega,by dsimp only;omega,by dsimp only;omega,by dsimp only;omega⟩ (dc d2 (dc d3 (dc d4 dn))) (kc k3 (kd (kc k1 (kc k1 (kc k1 (kc k1 kn)))))) ⟨Z,Z,Z,Z,Z,Z,Z,Z,Z,trivial⟩
structure D.Go7 where
 E:Int
 Block:Int
 Place:Int
deriving DecidableEq
instance:Inhabited D.Go7:=⟨⟨0,0,0⟩⟩
section
variable{e:D.End}{n:Int}
end
section
variable{m:D.MFunc}{a b c:Int}
end
section
variable{bs:List D.MBlock}{i j:Nat}{se se2:List Bool}{l l2:List Int}
end
section
variable{m:D.MFunc}{k:Nat}
end
section
variable{N:Int}{K:List Int→List Int→List D.Event→List Int→Int→D.Outcome}{O:D.Outcome}{I:List D.Mach}{k j na:Nat}{rs me A ea:List Int}{cl:List D.Event}{s:Int}
end
def Qm(a b:D.Outcome):Bool:=decide (a.End=b.End∧a.Val=b.Val∧a.Mem=b.Mem∧a.Calls=b.Calls)
section
variable{a b:D.Outcome}
end
theorem IP:Fld Tryz.prog 74 0 0:=⟨_,_,Tryz.underlying74,rfl,rfl,1,(by unfold Sz;kernel_rfl),by decide⟩
structure BV where
 P:Value
 I:Value
 T:D.Term
instance:Inhabited BV:=⟨⟨.slice none 0 0,.slice none 0 0,default⟩⟩
def rBV:Rp BV:=rM (rP rV (rP rV Ay)) (fun m=>(m.P,m.I,m.T))
abbrev bkL(B:Nat)(v:Value)(qs:List BV)(bs:List D.Block):List Res:=[gl B rBV 62 v qs,rw' B As 65 (qs.map BV.P) (bs.map D.Block.Phis),rw' B Ae 67 (qs.map BV.I) (bs.map D.Block.Ins)]
abbrev bkF(qs:List BV)(bs:List D.Block):Prop:=qs.length=bs.length∧qs.map BV.T=bs.map D.Block.Term
def bk(B:Nat)(v:Value)(qs:List BV)(bs:List D.Block):Res where
 sat F H:=bkF qs bs∧Ok F H (bkL B v qs bs)
 own:=Own (bkL B v qs bs)
 lt:=fun h=>Ok.lt h.2
 no:=fun h=>Ok.no h.2
 st:=fun hl hs h1 h2 h=>⟨h.1,Ok.st hl hs h1 h2 h.2⟩
section
variable{P:Program}{D0 Γ:List Dt}{L M N L0:List Res}{e:Env}{X:Cx}{n:Fs}{w0:World}{Q:Exit→Act→World→Prop}{F G:PH}{H:Heap}{B j i o:Nat}{v u v':Value}{qs:List BV}{bs:List D.Block}{q':BV}{b':D.Block}
theorem L9(h:Hp X Γ (bk B v qs bs::M) F H):bkF qs bs∧Hp X Γ (bkL B v qs bs++M) F H :=
 ⟨h.ok.1.1,⟨h.hx,h.hin,h.hw,h.hd,Ok.app h.ok.1.2 h.ok.2.2 h.ok.2.1,fun k hk=>h.ge k ((Own.app.1 hk).imp id id)⟩⟩
theorem Za(hf:bkF qs bs)(h:Hp X Γ (bkL B v qs bs++M) F H):Hp X Γ (bk B v qs bs::M) F H:=by
 obtain⟨a,b,c⟩:=Ok.un.2 h.ok
 exact⟨h.hx,h.hin,h.hw,h.hd,⟨⟨hf,a⟩,b,c⟩,fun k hk=>h.ge k (Own.app.2 (hk.imp id id))⟩
theorem Jk{α β:Type}[Inhabited α][Inhabited β](f:α→β){l:List α}{i:Nat}(h:i<l.length)(z:β):(l.map f).getD i z=f (ix l i):=by simp[ix,List.getD,h]
theorem Nt{α β:Type}[Inhabited α](f:α→β){l:List α}{i:Nat}{a:α}(h:i<l.length)(e:f a=f (ix l i)):(l.set i a).map f=l.map f:=by
 rw[List.map_set,e]
 apply List.ext_getElem (by simp)
 intro k h1 h2
 by_cases h3:i=k
 ·subst h3;simp[Bn h]
 ·rw[List.getElem_set_ne h3]
theorem Ti{T:TypeId}{x:Operand}(hk:Tk L (bk B v qs bs) M)(h1:j<bs.length)(hT:One P T)(hx:ev e x=some (.pointer (some ⟨Bs v,o,none⟩)))(ho:o=Br v+j*6+0):OH P Γ L e (.load T x) (ix qs j).P:=fun F H _ _ h=>by
 have h2:=(hk.ok h).1
 obtain⟨f,h3,h4⟩:=h2.2.1.1.cellP (off:=0) (i:=j) (by rw[h2.1.1];exact h1) (by decide)
 have h5:f 0=(ix qs j).P:=h3.1.1
 rw[h5] at h4
 exact Aa.load hT hx rfl (by rw[ho];exact h4)
theorem Yo{T:TypeId}{x:Operand}(hk:Tk L (bk B v qs bs) M)(h1:j<bs.length)(hT:One P T)(hx:ev e x=some (.pointer (some ⟨Bs v,o,none⟩)))(ho:o=Br v+j*6+1):OH P Γ L e (.load T x) (ix qs j).I:=fun F H _ _ h=>by
 have h2:=(hk.ok h).1
 obtain⟨f,h3,h4⟩:=h2.2.1.1.cellP (off:=1) (i:=j) (by rw[h2.1.1];exact h1) (by decide)
 have h5:f 1=(ix qs j).I:=h3.2.1.1
 rw[h5] at h4
 exact Aa.load hT hx rfl (by rw[ho];exact h4)
def M0(j B:Nat)(v:Value)(qs:List BV)(bs:List D.Block):Res where
 sat F H:=bkF qs bs∧Ok F H [gl B rBV 62 v qs,La j B As 65 (qs.map BV.P) (bs.map D.Block.Phis),rw' B Ae 67 (qs.map BV.I) (bs.map D.Block.Ins)]
 own:=Own [gl B rBV 62 v qs,La j B As 65 (qs.map BV.P) (bs.map D.Block.Phis),rw' B Ae 67 (qs.map BV.I) (bs.map D.Block.Ins)]
 lt:=fun h=>Ok.lt h.2
 no:=fun h=>Ok.no h.2
 st:=fun hl hs h1 h2 h=>⟨h.1,Ok.st hl hs h1 h2 h.2⟩
def FM(j B:Nat)(v:Value)(qs:List BV)(bs:List D.Block):Res where
 sat F H:=bkF qs bs∧Ok F H [gl B rBV 62 v qs,rw' B As 65 (qs.map BV.P) (bs.map D.Block.Phis),La j B Ae 67 (qs.map BV.I) (bs.map D.Block.Ins)]
 own:=Own [gl B rBV 62 v qs,rw' B As 65 (qs.map BV.P) (bs.map D.Block.Phis),La j B Ae 67 (qs.map BV.I) (bs.map D.Block.Ins)]
 lt:=fun h=>Ok.lt h.2
 no:=fun h=>Ok.no h.2
 st:=fun hl hs h1 h2 h=>⟨h.1,Ok.st hl hs h1 h2 h.2⟩
theorem WT{L2:List Res}(h:Hp X Γ L F H)(ho:Ok F H L→Ok F H L2)(hw:∀k,Own L2 k→Own L k):Hp X Γ L2 F H:=⟨h.hx,h.hin,h.hw,h.hd,ho h.ok,fun k hk=>h.ge k (hw k hk)⟩
theorem Jl{Ls:List Res}(h:Hp X Γ L F H)(hk:Tks L Ls M):Hp X Γ (Ls++M) F H:=WT h (fun o=>by obtain⟨a,b,c⟩:=hk.ok o;exact Ok.app a b c) (fun k hk'=>hk.own (Own.app.1 hk'))
theorem Yz{R:Res}{Ls:List Res}(h:Hp X Γ (R::(Ls++M)) F H):Hp X Γ (R::it Ls::M) F H:=by
 obtain⟨a,b,c⟩:=h.ok
 exact⟨h.hx,h.hin,h.hw,h.hd,⟨a,fun k hk ho=>b k hk (Own.app.2 ho),Ok.un.2 c⟩,fun k hk=>h.ge k (hk.imp id Own.app.2)⟩
theorem L8{R:Res}{Ls:List Res}(h:Hp X Γ (R::it Ls::M) F H):Hp X Γ (R::(Ls++M)) F H:=by
 obtain⟨a,b,c⟩:=h.ok
 exact⟨h.hx,h.hin,h.hw,h.hd,⟨a,fun k hk ho=>b k hk (Own.app.1 ho),Ok.un.1 c⟩,fun k hk=>h.ge k (hk.imp id Own.app.1)⟩
variable{ops:Array Oper}{rest:List Oper}{ty:TypeId}{pos:String}{af:Array Edge}
theorem Yp(j:Nat)(hk:Tk L (bk B v qs bs) M)(h1:j<bs.length)(k:LH P n w0 ops Q X Γ (gl B As 65 (ix qs j).P (ix bs j).Phis::M0 j B v qs bs::M) e rest):LH P n w0 ops Q X Γ L e rest:=fun F H hp=>by
 obtain⟨hf,h2⟩:=L9 (hp.front hk)
 have hl:j<qs.length:=by rw[hf.1];exact h1
 have h3:=h2.row (k1:Tk _ (rw' B As 65 (qs.map BV.P) (bs.map D.Block.Phis)) _) (i:=j) (by simpa using hl) (by simpa using h1)
 rw[Jk BV.P hl,Jk D.Block.Phis h1] at h3
 have h4:=Jl h3 (kc k0 (kc k1 (kd kn)))
 obtain⟨a,b,x,y,z⟩:=(Yz (Ls:=[_,_,_]) h4).ok
 exact k F H ⟨h4.hx,h4.hin,h4.hw,h4.hd,⟨a,b,⟨hf,x⟩,y,z⟩,(Yz (Ls:=[_,_,_]) h4).ge⟩
theorem EX(j:Nat)(hk:Tk L (bk B v qs bs) M)(h1:j<bs.length)(k:LH P n w0 ops Q X Γ (gl B Ae 67 (ix qs j).I (ix bs j).Ins::FM j B v qs bs::M) e rest):LH P n w0 ops Q X Γ L e rest:=fun F H hp=>by
 obtain⟨hf,h2⟩:=L9 (hp.front hk)
 have hl:j<qs.length:=by rw[hf.1];exact h1
 have h3:=h2.row (k2:Tk _ (rw' B Ae 67 (qs.map BV.I) (bs.map D.Block.Ins)) _) (i:=j) (by simpa using hl) (by simpa using h1)
 rw[Jk BV.I hl,Jk D.Block.Ins h1] at h3
 have h4:=Jl h3 (kc k0 (kc k1 (kc k1 (kc k0 kn))))
 obtain⟨a,b,x,y,z⟩:=(Yz (Ls:=[_,_,_]) h4).ok
 exact k F H ⟨h4.hx,h4.hin,h4.hw,h4.hd,⟨a,b,⟨hf,x⟩,y,z⟩,(Yz (Ls:=[_,_,_]) h4).ge⟩
theorem OU{m:BV}{f:Nat→Value}(h1:u.oneCell'=true)(h:rBV.ok F m f):rBV.ok F { m with P:=u } (Hk 0 [u] f) :=
 ⟨⟨rfl,h1⟩,⟨h.2.1.1,h.2.1.2⟩,Ay.ext (fun i _=>by show _=Hk 0 [u] f (i+1+1);unfold Hk;rw[if_neg (by simp)];rfl) h.2.2⟩
theorem OW{m:BV}{f:Nat→Value}(h1:u.oneCell'=true)(h:rBV.ok F m f):rBV.ok F { m with I:=u } (Hk 1 [u] f) :=
 ⟨⟨h.1.1,h.1.2⟩,⟨rfl,h1⟩,Ay.ext (fun i _=>by show _=Hk 1 [u] f (i+1+1);unfold Hk;rw[if_neg (by simp)];rfl) h.2.2⟩
theorem OT{m:BV}{f:Nat→Value}{us:List Value}{t:D.Term}(hl:us.length=4)(ht:Ay.ok F t (fun i=>us.getD i undef))(h:rBV.ok F m f):rBV.ok F { m with T:=t } (Hk 2 us f) :=
 ⟨⟨by show Hk 2 us f 0=_;unfold Hk;rw[if_neg (by simp)];exact h.1.1,h.1.2⟩,⟨by show Hk 2 us f 1=_;unfold Hk;rw[if_neg (by simp)];exact h.2.1.1,h.2.1.2⟩,
  Ay.ext (fun i hi=>by
   have hi:i<4:=hi
   show _=Hk 2 us f (i+1+1);unfold Hk;rw[if_pos (by omega)];rfl) ht⟩
theorem OS{m:BV}{f:Nat→Value}{l:List Int}(hu:(rL (rI .i64)).rv F u l)(h:rBV.ok F m f):rBV.ok F { m with T:={ m.T with To:=l } } (Hk 4 [u] f) :=
 ⟨⟨h.1.1,h.1.2⟩,⟨h.2.1.1,h.2.1.2⟩,⟨h.2.2.1.1,h.2.2.1.2⟩,(rL (rI .i64)).ext (fun i hi=>by rw[show i=0 from Nat.lt_one_iff.1 hi];rfl) h.2.2.2.1,(rL (rI .i64)).ext (fun i hi=>by rw[show i=0 from Nat.lt_one_iff.1 hi];rfl) hu,⟨h.2.2.2.2.2.1,h.2.2.2.2.2.2⟩⟩
theorem O9(hf:bkF qs bs)(h1:j<bs.length)(e:q'.T=b'.Term):bkF (qs.set j q') (bs.set j b'):=⟨by simp[hf.1],by rw[List.map_set,List.map_set,hf.2,e]⟩
theorem EV{T:TypeId}{x y:Operand}{l':List D.Ins}(hk:Tk L (gl B Ae 67 v' l') M)(hk2:Tk M (FM j B v qs bs) N)(h1:j<bs.length)(hT:Sz P T 1)(hx:ev e x=some (.pointer (some ⟨Bs v,o,none⟩)))(ho:o=Br v+j*6+1)(hy:ev e y=some v')(hv:v'.oneCell'=true)
  (k:LH P n w0 ops Q X Γ (bk B v (qs.set j { (ix qs j) with I:=v' }) (bs.set j { (ix bs j) with Ins:=l' })::N) e rest):LH P n w0 ops Q X Γ L e (⟨none,.store T x y,ty,pos,af,none⟩::rest):=fun F H hp=>by
 have h3:=Jl hp (kc hk (kc hk2 kn))
 have hf:bkF qs bs:=h3.ok.2.2.1.1
 have h4:Hp X Γ (gl B Ae 67 v' l'::gl B rBV 62 v qs::rw' B As 65 (qs.map BV.P) (bs.map D.Block.Phis)::La j B Ae 67 (qs.map BV.I) (bs.map D.Block.Ins)::N) F H :=
  L8 (Ls:=[_,_,_]) ⟨h3.hx,h3.hin,h3.hw,h3.hd,⟨h3.ok.1,h3.ok.2.1,h3.ok.2.2.1.2,h3.ok.2.2.2⟩,h3.ge⟩
 have hl:j<qs.length:=by rw[hf.1];exact h1
 refine LF.chg0 (Ao.storeP (h4.at k1).1 hl hT hx ho hy hv (by decide) (fun f=>OW hv)) ?_
 rintro _ H' ⟨g,hg,t,hb⟩
 have h5:=h4.set (R':=gl B rBV 62 v (qs.set j { (ix qs j) with I:=v' })) k1 ⟨Nat.le_of_eq t.1.symm,fun k _ h2=>t.2 k (fun e1=>h2 (e1▸hg))⟩ ⟨hb,by rw[t.1];exact hp1 h4 k1⟩ (fun k h => .inr h)
 have h6:=(Jl h5 (kc k1 (kc k2 (kd kn)))).unrow (by simpa using hl) (by simpa using h1)
 rw[show(List.map BV.I qs).set j v'=List.map BV.I (qs.set j { (ix qs j) with I:=v' }) by rw[List.map_set],show(List.map D.Block.Ins bs).set j l'=List.map D.Block.Ins (bs.set j { (ix bs j) with Ins:=l' }) by rw[List.map_set],
  ←Nt BV.P (a:={ (ix qs j) with I:=v' }) hl rfl,←Nt D.Block.Phis (a:={ (ix bs j) with Ins:=l' }) h1 rfl] at h6
 exact k F H' (Za (O9 hf h1 (by
  have:=congrArg (fun l=>l.getD j default) hf.2
  rwa[Jk BV.T hl,Jk D.Block.Term h1] at this)) (Jl h6 (kc k1 (kc k1 (kc k0 kn)))))
theorem K3{T:TypeId}{x y:Operand}{l':List D.Phi}(hk:Tk L (gl B As 65 v' l') M)(hk2:Tk M (M0 j B v qs bs) N)(h1:j<bs.length)(hT:Sz P T 1)(hx:ev e x=some (.pointer (some ⟨Bs v,o,none⟩)))(ho:o=Br v+j*6+0)(hy:ev e y=some v')(hv:v'.oneCell'=true)
  (k:LH P n w0 ops Q X Γ (bk B v (qs.set j { (ix qs j) with P:=v' }) (bs.set j { (ix bs j) with Phis:=l' })::N) e rest):LH P n w0 ops Q X Γ L e (⟨none,.store T x y,ty,pos,af,none⟩::rest):=fun F H hp=>by
 have h3:=Jl hp (kc hk (kc hk2 kn))
 have hf:bkF qs bs:=h3.ok.2.2.1.1
 have h4:Hp X Γ (gl B As 65 v' l'::gl B rBV 62 v qs::La j B As 65 (qs.map BV.P) (bs.map D.Block.Phis)::rw' B Ae 67 (qs.map BV.I) (bs.map D.Block.Ins)::N) F H :=
  L8 (Ls:=[_,_,_]) ⟨h3.hx,h3.hin,h3.hw,h3.hd,⟨h3.ok.1,h3.ok.2.1,h3.ok.2.2.1.2,h3.ok.2.2.2⟩,h3.ge⟩
 have hl:j<qs.length:=by rw[hf.1];exact h1
 refine LF.chg0 (Ao.storeP (h4.at k1).1 hl hT hx ho hy hv (by decide) (fun f=>OU hv)) ?_
 rintro _ H' ⟨g,hg,t,hb⟩
 have h5:=h4.set (R':=gl B rBV 62 v (qs.set j { (ix qs j) with P:=v' })) k1 ⟨Nat.le_of_eq t.1.symm,fun k _ h2=>t.2 k (fun e1=>h2 (e1▸hg))⟩ ⟨hb,by rw[t.1];exact hp1 h4 k1⟩ (fun k h => .inr h)
 have h6:=(Jl h5 (kc k1 (kc k1 (kd kn)))).unrow (by simpa using hl) (by simpa using h1)
 rw[show(List.map BV.P qs).set j v'=List.map BV.P (qs.set j { (ix qs j) with P:=v' }) by rw[List.map_set],show(List.map D.Block.Phis bs).set j l'=List.map D.Block.Phis (bs.set j { (ix bs j) with Phis:=l' }) by rw[List.map_set],
  ←Nt BV.I (a:={ (ix qs j) with P:=v' }) hl rfl,←Nt D.Block.Ins (a:={ (ix bs j) with Phis:=l' }) h1 rfl] at h6
 exact k F H' (Za (O9 hf h1 (by
  have:=congrArg (fun l=>l.getD j default) hf.2
  rwa[Jk BV.T hl,Jk D.Block.Term h1] at this)) (Jl h6 (kc k1 (kd kn))))
theorem VA{c:LH P n w0 ops Q X Γ (bk B v qs (bs.set j b')::N) e rest}(hk:Tk L (gl B As 65 (ix qs j).P b'.Phis) M)(hk2:Tk M (M0 j B v qs bs) N)(h1:j<bs.length)(hI:b'.Ins=(ix bs j).Ins)(hT:b'.Term=(ix bs j).Term):LH P n w0 ops Q X Γ L e rest:=fun F H hp=>by
 have h3:=Jl hp (kc hk (kc hk2 kn))
 have hf:bkF qs bs:=h3.ok.2.2.1.1
 have h4:Hp X Γ (gl B As 65 (ix qs j).P b'.Phis::gl B rBV 62 v qs::La j B As 65 (qs.map BV.P) (bs.map D.Block.Phis)::rw' B Ae 67 (qs.map BV.I) (bs.map D.Block.Ins)::N) F H :=
  L8 (Ls:=[_,_,_]) ⟨h3.hx,h3.hin,h3.hw,h3.hd,⟨h3.ok.1,h3.ok.2.1,h3.ok.2.2.1.2,h3.ok.2.2.2⟩,h3.ge⟩
 have hl:j<qs.length:=by rw[hf.1];exact h1
 have h6:=(Jl h4 (kc k0 (kc k1 (kd kn)))).unrow (by simpa using hl) (by simpa using h1)
 rw[←Jk BV.P hl undef,E6,show(List.map D.Block.Phis bs).set j b'.Phis=List.map D.Block.Phis (bs.set j b') by rw[List.map_set],
  ←Nt D.Block.Ins (a:=b') h1 hI] at h6
 exact c F H (Za ⟨by simp[hf.1],by rw[hf.2,Nt D.Block.Term h1 hT]⟩ (Jl h6 (kc k1 (kd kn))))
theorem FL{H':Heap}{t:D.Term}(hp:Hp X Γ L F H)(hk:Tk L (bk B v qs bs) M)(h1:j<bs.length)
  (hs:Gl rBV 62 F H B v qs→∃g,v.ownBlock=some g∧Tw g H H'∧Gl rBV 62 F H' B v (qs.set j { (ix qs j) with T:=t })):Hp X Γ (bk B v (qs.set j { (ix qs j) with T:=t }) (bs.set j { (ix bs j) with Term:=t })::M) F H':=by
 obtain⟨hf,h4⟩:=L9 (hp.front hk)
 have hl:j<qs.length:=by rw[hf.1];exact h1
 obtain⟨g,hg,t',hb⟩:=hs (h4.at k0).1
 have h5:=h4.set (R':=gl B rBV 62 v (qs.set j { (ix qs j) with T:=t })) k0 ⟨Nat.le_of_eq t'.1.symm,fun k _ h2=>t'.2 k (fun e1=>h2 (e1▸hg))⟩ ⟨hb,by rw[t'.1];exact hp1 h4 k0⟩ (fun k h => .inr h)
 rw[←Nt BV.P (a:={ (ix qs j) with T:=t }) hl rfl,←Nt BV.I (a:={ (ix qs j) with T:=t }) hl rfl,←Nt D.Block.Phis (a:={ (ix bs j) with Term:=t }) h1 rfl,←Nt D.Block.Ins (a:={ (ix bs j) with Term:=t }) h1 rfl] at h5
 exact Za (O9 hf h1 rfl) h5
theorem jbT{T:TypeId}{x y:Operand}{us:List Value}{t:D.Term}(hk:Tk L (bk B v qs bs) M)(h1:j<bs.length)(hT:Sz P T 4)(hx:ev e x=some (.pointer (some ⟨Bs v,o,none⟩)))(ho:o=Br v+j*6+2)(hy:ev e y=some (.agg us.toArray))(hu:us.length=4)(hv:Uj us)(ht:Nd Γ L (da Ay (.agg us.toArray) t))
  (k:LH P n w0 ops Q X Γ (bk B v (qs.set j { (ix qs j) with T:=t }) (bs.set j { (ix bs j) with Term:=t })::M) e rest):LH P n w0 ops Q X Γ L e (⟨none,.store T x y,ty,pos,af,none⟩::rest):=fun F H hp=>by
 have hq:=(hp.at hk)
 have ht':=ht F H hp.hin hp.hd hp.ok
 obtain⟨l',e1,_,h3⟩:=ht'
 injection e1 with e1;have e1:us=l':=by simpa using e1
 subst e1
 exact LF.chg0 (Ao.storePA hq.2.1.1 (by rw[hq.1.1];exact h1) hT hx ho hy hu hv.mem (by decide) (by rw[hu];decide) (fun f=>OT hu h3)) (by rintro _ H' h4;exact k F H' (FL hp hk h1 fun _=>h4))
theorem VK{T:TypeId}{x y:Operand}{l:List Int}(hk:Tk L (bk B v qs bs) M)(h1:j<bs.length)(hT:Sz P T 1)(hx:ev e x=some (.pointer (some ⟨Bs v,o,none⟩)))(ho:o=Br v+j*6+2+2)(hy:ev e y=some u)(hv:u.oneCell'=true)(ht:Nd Γ L (dv (rL (rI .i64)) u l))
  (k:LH P n w0 ops Q X Γ (bk B v (qs.set j { (ix qs j) with T:={ (ix bs j).Term with To:=l } }) (bs.set j { (ix bs j) with Term:={ (ix bs j).Term with To:=l } })::M) e rest):LH P n w0 ops Q X Γ L e (⟨none,.store T x y,ty,pos,af,none⟩::rest):=fun F H hp=>by
 have hq:=(hp.at hk)
 have hl:j<qs.length:=by rw[hq.1.1];exact h1
 have he:(ix qs j).T=(ix bs j).Term:=by
  have:=congrArg (fun l=>l.getD j default) hq.1.2
  rwa[Jk BV.T hl,Jk D.Block.Term h1] at this
 exact LF.chg0 (Ao.storeP hq.2.1.1 hl hT hx (off:=4) (by rw[ho,Nat.add_assoc];rfl) hy hv (by decide) (fun f h=>he▸OS (ht F H hp.hin hp.hd hp.ok) h)) (by rintro _ H' h4;exact k F H' (FL hp hk h1 fun _=>h4))
theorem Sq{α:Type}{r:Rp α}{T k:Nat}{B:Nat}:∀m,¬Own (rws B r T (List.replicate m (.slice none 0 0)) (List.replicate m [])) k
 | 0=>id
 | m+1=>fun h=>h.elim (fun h=>by cases h) (Sq m)
theorem H6{α:Type}{r:Rp α}{T:Nat}{B:Nat}(hB:B≤H.size):∀m,Ok F H (rws B r T (List.replicate m (.slice none 0 0)) (List.replicate m []))
 | 0=>trivial
 | m+1=>⟨⟨Gl.nil _ _ _,hB⟩,(fun k h=>by cases h),H6 hB m⟩
theorem VF{T:TypeId}{x y:Operand}{z:Value}{bytes m d:Nat}{I J:Int}(hT:P.underlying T=some (.slice 62))(hE:(P.info? 62).map (fun i=>(i.zero,i.size,i.bytes))=some (some z,6,bytes))(hz:z.cells=#[.slice none 0 0,.slice none 0 0,.int .i64 0,.slice none 0 0,.slice none 0 0,.int .i32 0])
  (hx:ev e x=some (.int .i64 I)) (hy:ev e y=some (.int .i64 J)) (hI:I=m) (hJ:J=m) (h1:bytes*m≤281474976710656∧m≤140737488355328)
  (k:∀g,LH P n w0 ops Q X Γ (bk X.n (.slice (some ⟨g,0,none⟩) m m) (List.replicate m default) (List.replicate m default)::L) ((d,.slice (some ⟨g,0,none⟩) m m)::e) rest) (hd:Nat.blt d n.sz=true:=by rfl):LH P n w0 ops Q X Γ L e (⟨some d,.makeSlice T x y,ty,pos,af,none⟩::rest):=fun F H hp =>
 LF.chg (Ao.makeN (F:=F) (r:=rBV) (n:=m) (a:=default) hT hE (by rw[hz];rfl) (by decide) hx hy hI hJ h1.1 h1.2 (by rw[hz];exact⟨⟨rfl,rfl⟩,⟨rfl,rfl⟩,⟨rfl,rfl⟩,rL.nil _,rL.nil _,rfl,rfl⟩)) (by
  rintro _ H' ⟨g,rfl,eg,sg,kg,hb⟩
  refine k g F H' (hp.new (R:=bk X.n (.slice (some ⟨g,0,none⟩) m m) (List.replicate m default) (List.replicate m default)) kg ⟨⟨by simp,by simp;exact .inr rfl⟩,?_⟩ ?_)
  ·have hB:X.n≤H'.size:=Nat.le_trans hp.hw.1 kg.1
   refine⟨⟨(hb hp.hin).base hp.hw.1,hB⟩,fun k _ ho=>?_,?_,fun k ho=>?_,?_,fun _ _ h=>h,trivial⟩
   ·simp only[List.map_replicate] at ho
    exact ho.elim (fun h=>Sq m h) (fun h=>h.elim (fun h=>Sq m h) id)
   ·rw[List.map_replicate,List.map_replicate];exact H6 hB m
   ·rw[List.map_replicate,List.map_replicate] at ho;exact(Sq m ho).elim
   ·rw[List.map_replicate,List.map_replicate];exact H6 hB m
  ·rintro k (h|h|h|h)
   ·exact((hb hp.hin).blk k h).1
   ·rw[List.map_replicate,List.map_replicate] at h;exact(Sq m h).elim
   ·rw[List.map_replicate,List.map_replicate] at h;exact(Sq m h).elim
   ·exact h.elim) hd
abbrev Te(bs:List D.Block):Prop:=bs.length<1073741824∧∀b∈bs,b.Phis.length<1073741824∧b.Ins.length<1073741824
theorem O8(hin:InH F H)(h:(bk B v qs bs).sat F H)(hl:Te bs):∃G,F.le G∧InH G H∧(∀k,k<B→G k=F k)∧(∀k,¬(bk B v qs bs).own k→G k=F k)∧(rL Ah).rv G v bs:=by
 obtain⟨hf,o1,o2,o3,o4,o5,_⟩:=h
 have o1':Gl rBV 62 F H B v qs:=o1.1
 obtain⟨G,f1,f2,f3,f4,f5⟩:=o1'.freeze (N:=1073741824) hin (by rw[hf.1];exact hl.1)
 have q3:Ok G H (rws B As 65 (qs.map BV.P) (bs.map D.Block.Phis)):=Ok.st f1 (Nat.le_refl _) (fun k hk=>(f4 k (fun e1=>o2 k e1 (.inl hk))).trans (Ok.no (L:=rws B As 65 (qs.map BV.P) (bs.map D.Block.Phis)) o3 hk)) (fun _ _=>rfl) o3
 obtain⟨K,g1,g2,g3,g4,g5⟩:=Xj f2 q3 (by simp[hf.1]) (fun l hl'=>by obtain⟨b,hb,rfl⟩:=List.mem_map.1 hl';exact(hl.2 b hb).1)
 have q5:Ok K H (rws B Ae 67 (qs.map BV.I) (bs.map D.Block.Ins)):=Ok.st (f1.trans g1) (Nat.le_refl _) (fun k hk=>((g4 k (fun h=>o4 k h (.inl hk))).trans (f4 k (fun e1=>o2 k e1 (.inr (.inl hk))))).trans (Ok.no (L:=rws B Ae 67 (qs.map BV.I) (bs.map D.Block.Ins)) o5 hk)) (fun _ _=>rfl) o5
 obtain⟨J,i1,i2,i3,i4,i5⟩:=Xj g2 q5 (by simp[hf.1]) (fun l hl'=>by obtain⟨b,hb,rfl⟩:=List.mem_map.1 hl';exact(hl.2 b hb).2)
 refine⟨J,(f1.trans g1).trans i1,i2,fun k hk=>(i3 k hk).trans ((g3 k hk).trans (f3 k hk)),fun k hk=>(i4 k (fun h=>hk (.inr (.inr (.inl h))))).trans ((g4 k (fun h=>hk (.inr (.inl h)))).trans (f4 k (fun h=>hk (.inl h)))),?_⟩
 obtain⟨a,b,c,d,f,g,g',x,y⟩:=Rp.rv.up f5 (g1.trans i1)
 refine⟨hf.1▸a,b,c,hf.1▸d,hf.1▸f,fun i hi=>g i (by rw[hf.1];exact hi),g',fun i hi=>x i (by rw[hf.1];exact hi),fun i hi=>?_⟩
 have hi':i<qs.length:=by rw[hf.1];exact hi
 have h2:=y i hi'
 have h3:=Rp.rv.up (g5 i (by simpa using hi') (by simpa using hi)) i1
 have h4:=i5 i (by simpa using hi') (by simpa using hi)
 simp only[List.getElem_map] at h3 h4
 have h5:qs[i].T=bs[i].Term:=by
  have:=congrArg (fun l=>l[i]?) hf.2
  simpa[hi,hi'] using this
 have h6:Ay.ok J qs[i].T (fun q=>g' (i*6+(q+1+1))):=h2.2.2
 rw[h5] at h6
 refine⟨(rL As).ext (fun j hj=>?_) h3,(rL Ae).ext (fun j hj=>?_) h4,h6⟩
 ·rw[show j=0 from Nat.lt_one_iff.1 hj];exact h2.1.1.symm
 ·rw[show j=0 from Nat.lt_one_iff.1 hj];exact h2.2.1.1.symm
theorem WU(hp:Hp X Γ L F H)(hk:Tk L (bk X.n v qs bs) M)(hl:Te bs):∃G,Hp X (dv (rL Ah) v bs::Γ) M G H:=by
 obtain⟨o1,o2,o3⟩:=hk.ok hp.ok
 obtain⟨G,h1,h2,h3,h4,h5⟩:=O8 hp.hin o1 hl
 have h6:∀k,Own M k→G k=F k:=fun k hk1=>h4 k (fun e1=>o2 k e1 hk1)
 exact⟨G,⟨⟨hp.hx.1.trans h1,fun k hk1=>(h3 k hk1).trans (hp.hx.2 k hk1)⟩,h2,hp.hw,⟨h5,hp.hd.up h1⟩,o3.st h1 (Nat.le_refl _) (fun k hk1=>(h6 k hk1).trans (o3.no hk1)) (fun _ _=>rfl),fun k hk1=>hp.ge k (hk.own (.inr hk1))⟩⟩
theorem OQ{x:Exit}(hk:Tk L (bk X.n v qs bs) M)(hl:Te bs)(k:QH n w0 Q X (dv (rL Ah) v bs::Γ) M e x):QH n w0 Q X Γ L e x:=fun F H hp=>by
 obtain⟨G,h⟩:=WU hp hk hl;exact k G H h
variable{f:FuncId}{args:Array Value}{x:Value}
theorem XB{T:TypeId}{F G:PH}{H:Heap}{B:Nat}{v:Value}{l:List Bool}(h:Gl rB T G H B v l)(hl:F.le G):Gl rB T F H B v l:=by
 obtain⟨xs,h1,h2,h3⟩:=h
 refine⟨xs,h1,fun b hb=>?_,h3⟩
 cases hF:F b with
 | none=>rfl
 | some o=>have:=hl b o hF;rw[h2 b hb] at this;cases this
theorem Q7{kd:IntKind}{T2:TypeId}{m:List Int}(h:Tg P f args (dv (rL Ah) v bs::D0) [] (rI kd) T2 m)(hl:Te bs):Tr P f args D0 [bk B v qs bs] (fun v:Value=>v) (fun _=>[]) (fun B' u=>[gl B' (rI kd) T2 u m,bk B v qs bs]):=fun F H hin hd ho=>by
 obtain⟨G,g1,g2,g3,g4,g5⟩:=O8 hin ho.1 hl
 refine(h G H g2 ⟨g5,hd.up g1⟩ trivial).mono ?_
 rintro u H' ⟨_,F',rfl,h2⟩
 refine⟨u,F,rfl,fun B' hB=>?_⟩
 have h3:=h2 B' hB
 obtain⟨a,b,c⟩:=h3.less hin g1
 have hu:∀k,u.ownBlock=some k→H.size≤k:=fun k hk=>(h3.ge k (.inl hk)).resolve_right id
 refine⟨a,b,⟨c.1,fun k hk hn=>c.2 k hk id⟩,trivial,⟨⟨h3.ok.1.1.flatI (g1.trans h3.hx.1),h3.ok.1.2⟩,fun k hk ho'=>?_,⟨Res.st _ (PH.le.refl F) c.1 (fun k hk=>Res.no _ ho.1 hk) (fun k hk=>c.2 k (Res.lt _ ho.1 hk) id) ho.1,fun _ _=>id,trivial⟩⟩,fun k hk=>?_⟩
 ·have h4:=Res.lt _ ho.1 (ho'.resolve_right id)
  have h5:=hu k hk
  omega
 ·rcases hk with hk|hk
  ·exact .inl (hu k hk)
  ·exact .inr hk
theorem j6{T2:TypeId}{m:List Bool}(h:Tg P f args (dv (rL Ah) v bs::D0) [] rB T2 m)(hl:Te bs):Tr P f args D0 [bk B v qs bs] (fun v:Value=>v) (fun _=>[]) (fun B' u=>[gl B' rB T2 u m,bk B v qs bs]):=fun F H hin hd ho=>by
 obtain⟨G,g1,g2,g3,g4,g5⟩:=O8 hin ho.1 hl
 refine(h G H g2 ⟨g5,hd.up g1⟩ trivial).mono ?_
 rintro u H' ⟨_,F',rfl,h2⟩
 refine⟨u,F,rfl,fun B' hB=>?_⟩
 have h3:=h2 B' hB
 obtain⟨a,b,c⟩:=h3.less hin g1
 have hu:∀k,u.ownBlock=some k→H.size≤k:=fun k hk=>(h3.ge k (.inl hk)).resolve_right id
 refine⟨a,b,⟨c.1,fun k hk hn=>c.2 k hk id⟩,trivial,⟨⟨XB h3.ok.1.1 (g1.trans h3.hx.1),h3.ok.1.2⟩,fun k hk ho'=>?_,⟨Res.st _ (PH.le.refl F) c.1 (fun k hk=>Res.no _ ho.1 hk) (fun k hk=>c.2 k (Res.lt _ ho.1 hk) id) ho.1,fun _ _=>id,trivial⟩⟩,fun k hk=>?_⟩
 ·have h4:=Res.lt _ ho.1 (ho'.resolve_right id)
  have h5:=hu k hk
  omega
 ·rcases hk with hk|hk
  ·exact .inl (hu k hk)
  ·exact .inr hk
end
section
variable{P:Program}{Γ:List Dt}{L M:List Res}{e:Env}{F:PH}{H:Heap}{B j i o:Nat}{v u:Value}{qs:List BV}{bs:List D.Block}{T:TypeId}{x y:Operand}{kd:IntKind}{I:Int}
theorem Zl(h:(bk B v qs bs).sat F H)(h1:j<bs.length):Gl As 65 F H B (ix qs j).P (ix bs j).Phis:=by
 have hl:j<qs.length:=by rw[h.1.1];exact h1
 obtain⟨h3,h4⟩:=Xi (B:=B) (r:=As) (T:=65) (vs:=qs.map BV.P) (ls:=bs.map D.Block.Phis) (i:=j) (by simpa using hl) (by simpa using h1)
 have h5:=((Ok.focus h3).1 h.2.2.2.1).1
 rw[h4,Jk BV.P hl,Jk D.Block.Phis h1] at h5;exact h5.1
theorem O7(h:(bk B v qs bs).sat F H)(h1:j<bs.length):Gl Ae 67 F H B (ix qs j).I (ix bs j).Ins:=by
 have hl:j<qs.length:=by rw[h.1.1];exact h1
 obtain⟨h3,h4⟩:=Xi (B:=B) (r:=Ae) (T:=67) (vs:=qs.map BV.I) (ls:=bs.map D.Block.Ins) (i:=j) (by simpa using hl) (by simpa using h1)
 have h5:=((Ok.focus h3).1 h.2.2.2.2.2.1).1
 rw[h4,Jk BV.I hl,Jk D.Block.Ins h1] at h5;exact h5.1
theorem VE(hT:P.underlying T=some (.slice 65))(hk:Tk L (bk B v qs bs) M)(h1:j<bs.length)(hx:ev e x=some (ix qs j).P):OH P Γ L e (.call { callee := .builtin .len,args:=#[x],argTypes:=#[T] }) (.int .i64 ((ix bs j).Phis.length:Nat)):=fun F H _ _ h=>Aa.lenG hT (Zl (hk.ok h).1 h1) hx
theorem VD(hT:P.underlying T=some (.slice 67))(hk:Tk L (bk B v qs bs) M)(h1:j<bs.length)(hx:ev e x=some (ix qs j).I):OH P Γ L e (.call { callee := .builtin .len,args:=#[x],argTypes:=#[T] }) (.int .i64 ((ix bs j).Ins.length:Nat)):=fun F H _ _ h=>Aa.lenG hT (O7 (hk.ok h).1 h1) hx
theorem EW(hT:P.underlying T=some (.slice 65))(hE:Sz P 65 2)(hk:Tk L (bk B v qs bs) M)(h1:j<bs.length)(hx:ev e x=some (ix qs j).P)(hi:ev e y=some (.int kd I))(hI:I=i)(h2:i<(ix bs j).Phis.length):OH P Γ L e (.indexAddr T x y) (.pointer (some ⟨Bs (ix qs j).P,Br (ix qs j).P+i*2,none⟩)):=fun F H _ _ h=>Aa.idxG hT hE (Zl (hk.ok h).1 h1) hx hi hI h2 (by decide)
theorem VH(hT:P.underlying T=some (.slice 67))(hE:Sz P 67 5)(hk:Tk L (bk B v qs bs) M)(h1:j<bs.length)(hx:ev e x=some (ix qs j).I)(hi:ev e y=some (.int kd I))(hI:I=i)(h2:i<(ix bs j).Ins.length):OH P Γ L e (.indexAddr T x y) (.pointer (some ⟨Bs (ix qs j).I,Br (ix qs j).I+i*5,none⟩)):=fun F H _ _ h=>Aa.idxG hT hE (O7 (hk.ok h).1 h1) hx hi hI h2 (by decide)
theorem VJ(hk:Tk L (bk B v qs bs) M)(h1:j<bs.length)(h2:i<(ix bs j).Phis.length)(hT:One P T)(hx:ev e x=some (.pointer (some ⟨Bs (ix qs j).P,o,none⟩)))(ho:o=Br (ix qs j).P+i*2+0):OH P Γ L e (.load T x) (.int .i64 (ix (ix bs j).Phis i).Dst):=fun F H _ _ h=>by
 obtain⟨f,h3,h4⟩:=(Zl (hk.ok h).1 h1).cellP (off:=0) h2 (by decide)
 rw[show f 0 = .int .i64 (ix (ix bs j).Phis i).Dst from h3.1.1] at h4
 exact Aa.load hT hx rfl (by rw[ho];exact h4)
theorem JW(hk:Tk L (bk B v qs bs) M)(h1:j<bs.length)(h2:i<(ix bs j).Phis.length):Wr Γ L .i64 (ix (ix bs j).Phis i).Dst:=fun F H _ _ h=>by
 obtain⟨f,h3,_⟩:=(Zl (hk.ok h).1 h1).cellP (off:=0) h2 (by decide)
 exact h3.1.2
theorem VL(hk:Tk L (bk B v qs bs) M)(h1:j<bs.length)(h2:i<(ix bs j).Ins.length)(hT:Ag9 P T)(hS:Sz P T 5)(hx:ev e x=some (.pointer (some ⟨Bs (ix qs j).I,Br (ix qs j).I+i*5,none⟩))):OE P Γ L e (.load T x) (fun u F=>(da Ae u (ix (ix bs j).Ins i)).sat F):=fun F H _ _ h=>Aa.ldGA (O7 (hk.ok h).1 h1) h2 hT hS hx
theorem bkn(hB:B≤H.size):(bk B (.slice none 0 0) [] []).sat F H:=⟨⟨rfl,rfl⟩,⟨Gl.nil _ _ _,hB⟩,(fun k h=>by cases h),trivial,(fun _ h=>h.elim),trivial,(fun _ h=>h.elim),trivial⟩
end
theorem VC{P:Program}{Γ:List Dt}{L:List Res}{e:Env}{X:Cx}{n:Fs}{w0:World}{Q:Exit→Act→World→Prop}{ops:Array Oper}{rest:List Oper}(k:LH P n w0 ops Q X Γ (bk X.n (.slice none 0 0) [] []::L) e rest):LH P n w0 ops Q X Γ L e rest:=fun F H hp=>k F H (hp.new (R:=bk X.n (.slice none 0 0) [] []) (Kp.refl _ _) (bkn hp.hw.1) (fun k h=>by rcases h with h|h|h|h;(· cases h);(· exact h.elim);(· exact h.elim);exact h.elim))
def SlB(v:Value)(m:Nat):Prop:=∃a c,v = .slice a m c∧(0<m→∃g,a=some ⟨g,0,none⟩)
section
variable{P:Program}{Γ:List Dt}{L M:List Res}{e:Env}{X:Cx}{n:Fs}{w0:World}{Q:Exit→Act→World→Prop}{B j m:Nat}{v:Value}{qs:List BV}{bs:List D.Block}{T:TypeId}{x y:Operand}{k:IntKind}{I:Int}{c:Code}{ops:Array Oper}{rest:List Oper}
theorem HK{F:PH}{H:Heap}(h:(bk B v qs bs).sat F H)(hm:bs.length=m):SlB v m:=by
 obtain⟨xs,g1,_⟩:=h.2.1.1
 rw[h.1.1,hm] at g1
 rcases g1.2 with⟨h9,h8⟩|⟨g,cap,cur,h9,_⟩
 ·subst h8;exact⟨_,_,h9,fun h=>absurd h (Nat.lt_irrefl 0)⟩
 ·exact⟨_,_,h9,fun _=>⟨g,rfl⟩⟩
theorem cbk(hk:Tk L (bk B v qs bs) M)(hm:bs.length=m)(kk:SlB v m→CH P n w0 Q X Γ L e c):CH P n w0 Q X Γ L e c:=fun F H hp=>kk (HK (hp.at hk) hm) F H hp
theorem lbk(hk:Tk L (bk B v qs bs) M)(hm:bs.length=m)(kk:SlB v m→LH P n w0 ops Q X Γ L e rest):LH P n w0 ops Q X Γ L e rest:=fun F H hp=>kk (HK (hp.at hk) hm) F H hp
theorem Ha(hT:P.underlying T=some (.slice 62))(hE:Sz P 62 6)(hv:SlB v m)(hx:ev e x=some v)(hi:ev e y=some (.int k I))(hI:I=j)(h1:j<m):OH P Γ L e (.indexAddr T x y) (.pointer (some ⟨Bs v,Br v+j*6,none⟩)):=fun F H _ _ _=>by
 obtain⟨a,cap,rfl,hg⟩:=hv
 obtain⟨g,rfl⟩:=hg (by omega)
 subst hI
 have:=Aa.indexA (H:=H) hT hE hx hi (by omega) (by omega)
 simpa[Bs,Br] using this
end
theorem Vr{k:IntKind}{l:List Int}(h:∀x∈l,k.wrap x=x)(h0:k.wrap 0=0)(i:Nat):k.wrap (ix l i)=ix l i:=by
 by_cases hi:i<l.length
 ·exact h _ (Ax hi)
 ·simp only[ix,List.getD,List.getElem?_eq_none (Nat.le_of_not_lt hi),Option.getD_none];exact h0
theorem Zc{F:PH}{v:Value}{m:D.Func}(hw:IntKind.i64.wrap m.Params=m.Params)(h:AllD F [dv (rL Ah) v m.Blocks]):AllD F [da Ak (vFunc m v) m]:=⟨Ak.mk h.1 hw,trivial⟩
structure Mk where
 s:List Int
 k:Int
 par:Int
 bs:List D.Block
 nx:Int
 lv:List Int
def tVV(n:Int)(m:Mk):Int:=Int.tmod (Int.tmod (if m.k<m.s.length then ix m.s m.k.toNat else 0) n+n) n
def tSS(m:Mk):Mk:={ m with k:=m.k+1 }
def Ar(m:Mk):Int :=
 if tVV 8 (tSS m)=0 then IntKind.i32.wrap (tVV 1048576 m*4099)
 else if tVV 8 (tSS m)=1 then -tVV 1048576 m
 else if tVV 8 (tSS m)=2 then -2147483648
 else if tVV 8 (tSS m)=3 then Int.tmod (tVV 1048576 m) 70000
 else Int.tmod (tVV 1048576 m) 20-4
def Cb(m:Mk):Mk:=tSS (tSS m)
def En(m:Mk):Bool:=!decide (m.lv.length=0)
def Ey(m:Mk):Int:=if tVV 3 (tSS m)=0 then (m.lv.length:Int)-1 else tVV m.lv.length m
def Ew(m:Mk):Int:=if m.lv.length=0 then 0 else ix m.lv (Ey m).toNat
def Cr(m:Mk):Mk:=if m.lv.length=0 then m else tSS (tSS m)
def Aq(m:Mk):Mk:={ m with nx:=m.nx+1 }
def Aw(i:D.Ins):List Int:=if i.Op=16 then [] else if i.Op=18 then [i.Dst,i.Two] else [i.Dst]
def Ca(b:Int)(i:D.Ins)(m:Mk):Mk:={ m with bs:=m.bs.set b.toNat { (ix m.bs b.toNat) with Ins:=(ix m.bs b.toNat).Ins++[i] },lv:=m.lv++Aw i }
def Bk(b n:Int)(m:Mk):Mk:=Ca b ⟨1,m.nx,0,[],n⟩ (Aq m)
def Hx(m:Mk):Bool:=!En m||decide (tVV 9 (Cr m)=0)
def Dj(m:Mk):Mk:=if En m then tSS (Cr m) else Cr m
def sV9(m:Mk):Int:=if Hx m then (Cb (Dj m)).nx else Ew m
def sS9(b:Int)(m:Mk):Mk:=if Hx m then Bk b (Ar (Dj m)) (Cb (Dj m)) else Dj m
def Bw:List D.Block→Nat
 | []=>0
 | x::l=>x.Phis.length+x.Ins.length+1+Bw l
theorem GY:∀{l:List D.Block} {j:Nat},j<l.length→(ix l j).Phis.length+(ix l j).Ins.length≤Bw l
 | x::l,0,_=>by rw[Ia,Bw];omega
 | x::l,j+1,h=>by rw[Iq,Bw];have:=GY (l:=l) (j:=j) (by simpa using h);omega
theorem GX:∀{l:List D.Block} {j d:Nat} {b:D.Block},b.Phis.length+b.Ins.length≤(ix l j).Phis.length+(ix l j).Ins.length+d→Bw (l.set j b)≤Bw l+d
 | [],_,_,_,_=>by simp[Bw]
 | x::l,0,_,b,h=>by rw[Ia] at h;rw[List.set_cons_zero,Bw,Bw];omega
 | x::l,j+1,d,b,h=>by rw[Iq] at h;rw[List.set_cons_succ,Bw,Bw];have:=GX (l:=l) h;omega
theorem ZO(n:Nat):Bw (List.replicate n default)=n:=by
 induction n with
 | zero=>rfl
 | succ n ih=>rw[List.replicate_succ,Bw,ih];show 0+0+1+n=n+1;omega
def okM(nb c:Nat)(m:Mk):Prop:=(0≤m.k∧m.k≤c)∧(0≤m.nx∧m.nx≤c)∧(0≤m.par∧m.par≤4)∧m.lv.length≤2*c+4∧m.bs.length=nb∧Bw m.bs≤c
theorem okM.bnd{nb c:Nat}{m:Mk}(h:okM nb c m):0≤m.k∧m.k≤c∧0≤m.nx∧m.nx≤c∧0≤m.par∧m.par≤4∧m.lv.length≤2*c+4∧m.bs.length=nb∧Bw m.bs≤c:=⟨h.1.1,h.1.2,h.2.1.1,h.2.1.2,h.2.2.1.1,h.2.2.1.2,h.2.2.2.1,h.2.2.2.2.1,h.2.2.2.2.2⟩
theorem okM.row{nb c:Nat}{m:Mk}(h:okM nb c m){j:Nat}(hj:j<nb):(ix m.bs j).Phis.length≤c∧(ix m.bs j).Ins.length≤c:=by
 have h1:=GY (l:=m.bs) (j:=j) (by rw[h.2.2.2.2.1];exact hj)
 have h2:=h.2.2.2.2.2
 omega
theorem okM.mono{nb c c':Nat}{m:Mk}(h:okM nb c m)(hc:c≤c'):okM nb c' m:=⟨⟨h.1.1,by have:=h.1.2;omega⟩,⟨h.2.1.1,by have:=h.2.1.2;omega⟩,h.2.2.1,by have:=h.2.2.2.1;omega,h.2.2.2.2.1,by have:=h.2.2.2.2.2;omega⟩
theorem okM.setk{nb c c':Nat}{m:Mk}{x:Int}(h:okM nb c m)(hx:0≤x∧x≤c')(hc:c≤c'):okM nb c' { m with k:=x }:=⟨hx,(h.mono hc).2⟩
theorem okM.setnx{nb c c':Nat}{m:Mk}{x:Int}(h:okM nb c m)(hx:0≤x∧x≤c')(hc:c≤c'):okM nb c' { m with nx:=x }:=⟨(h.mono hc).1,hx,(h.mono hc).2.2⟩
theorem okM.setpar{nb c c':Nat}{m:Mk}{x:Int}(h:okM nb c m)(hx:0≤x∧x≤4)(hc:c≤c'):okM nb c' { m with par:=x }:=⟨(h.mono hc).1,(h.mono hc).2.1,hx,(h.mono hc).2.2.2⟩
theorem okM.setlv{nb c c':Nat}{m:Mk}{x:List Int}(h:okM nb c m)(hx:x.length≤2*c'+4)(hc:c≤c'):okM nb c' { m with lv:=x }:=⟨(h.mono hc).1,(h.mono hc).2.1,(h.mono hc).2.2.1,hx,(h.mono hc).2.2.2.2⟩
theorem okM.setb{nb c d:Nat}{m:Mk}{j:Nat}{b:D.Block}(h:okM nb c m)(hx:b.Phis.length+b.Ins.length≤(ix m.bs j).Phis.length+(ix m.bs j).Ins.length+d):okM nb (c+d) { m with bs:=m.bs.set j b }:=by
 have h1:Bw (m.bs.set j b)≤Bw m.bs+d:=GX (l:=m.bs) hx
 have h2:=h.2.2.2.2.2
 have h3:okM nb (c+d) m:=h.mono (Nat.le_add_right _ _)
 exact⟨h3.1,h3.2.1,h3.2.2.1,h3.2.2.2.1,by simpa using h3.2.2.2.2.1,Nat.le_trans h1 (by omega)⟩
theorem okM.setbs{nb c n:Nat}{m:Mk}(h:okM nb c m):okM n (c+n) { m with bs:=List.replicate n default }:=by
 have h3:okM nb (c+n) m:=h.mono (Nat.le_add_right _ _)
 exact⟨h3.1,h3.2.1,h3.2.2.1,h3.2.2.2.1,by simp,by show Bw (List.replicate n default)≤_;rw[ZO];omega⟩
section
variable{nb c:Nat}{m:Mk}
theorem tO9(h:okM nb c m):okM nb (c+1) (tSS m):=h.setk (by have:=h.bnd;omega) (by omega)
theorem Lj(h:okM nb c m):okM nb (c+2) (Cb m):=tO9 (tO9 h)
theorem C4(h:okM nb c m):okM nb (c+2) (Cr m):=by unfold Cr;split;exact h.mono (by omega);exact tO9 (tO9 h)
theorem Dw(h:okM nb c m):okM nb (c+1) (Aq m):=h.setnx (by have:=h.bnd;omega) (by omega)
theorem Sx(i:D.Ins):(Aw i).length≤2:=by unfold Aw;(repeat' split)<;>simp
theorem Dx{b:Int}{i:D.Ins}(h:okM nb c m)(hb:b.toNat<nb):okM nb (c+2) (Ca b i m) :=
 okM.setlv (m:={ m with bs:=m.bs.set b.toNat { (ix m.bs b.toNat) with Ins:=(ix m.bs b.toNat).Ins++[i] } }) (c:=c+1) (h.setb (d:=1) (by dsimp only;rw[List.length_append];simp only[List.length_cons,List.length_nil];omega)) (by have:=h.bnd;have:=Sx i;simp only[List.length_append];omega) (by omega)
theorem Hc{b n:Int}(h:okM nb c m)(hb:b.toNat<nb):okM nb (c+3) (Bk b n m):=Dx (Dw h) hb
theorem Y4(h:okM nb c m):okM nb (c+3) (Dj m):=by unfold Dj;split;exact tO9 (C4 h);exact(C4 h).mono (by omega)
theorem Dy{b:Int}(h:okM nb c m)(hb:b.toNat<nb):okM nb (c+8) (sS9 b m):=by
 unfold sS9;split
 ·exact(Hc (Lj (Y4 h)) hb).mono (by omega)
 ·exact(Y4 h).mono (by omega)
theorem tV9{n:Int}(hn:0<n)(m:Mk):0≤tVV n m∧tVV n m<n:=by
 unfold tVV
 generalize (if m.k<m.s.length then ix m.s m.k.toNat else 0)=x
 have h1:=Int.lt_tmod_of_pos x hn
 exact⟨Int.tmod_nonneg _ (by omega),Int.tmod_lt_of_pos _ hn⟩
theorem Pg(m:Mk):IntKind.i32.wrap (Ar m)=Ar m:=by
 have h:=tV9 (n:=1048576) (by omega) m
 have h2:=Int.tmod_nonneg 70000 h.1
 have h3:=Int.tmod_lt_of_pos (tVV 1048576 m) (b:=70000) (by omega)
 have h4:=Int.tmod_nonneg 20 h.1
 have h5:=Int.tmod_lt_of_pos (tVV 1048576 m) (b:=20) (by omega)
 unfold Ar
 repeat' split
 ·exact JE.wrap_wrap _ _
 all_goals exact IntWalk.i32_in _ (by omega)
theorem T7:(Cr m).s=m.s:=by unfold Cr;split<;>rfl
theorem Fd{b:Int}{i:D.Ins}:(Ca b i m).s=m.s:=rfl
theorem Mc{b n:Int}:(Bk b n m).s=m.s:=rfl
theorem Ge{b:Int}:(sS9 b m).s=m.s:=by unfold sS9 Dj;(repeat' split)<;>first|rfl|exact T7
end
theorem okM.lens{nb c:Nat}{m:Mk}(h:okM nb c m)(hc:c<1073741824):∀b∈m.bs,b.Phis.length<1073741824∧b.Ins.length<1073741824:=fun b hb=>by
 obtain⟨j,hj,rfl⟩:=List.getElem_of_mem hb
 have h1:=h.row (j:=j) (by rw[←h.2.2.2.2.1];exact hj)
 rw[Bn hj] at h1
 omega
abbrev okS(nb c:Nat)(S:List Int)(m:Mk):Prop:=okM nb c m∧m.s=S
abbrev bnd(nb c:Nat)(m:Mk):Prop:=0≤m.k∧m.k≤c∧0≤m.nx∧m.nx≤c∧0≤m.par∧m.par≤4∧m.lv.length≤2*c+4∧m.bs.length=nb∧Bw m.bs≤c
theorem okS.mono{nb c c':Nat}{S:List Int}{m:Mk}(h:okS nb c S m)(hc:c≤c'):okS nb c' S m:=⟨okM.mono h.1 hc,h.2⟩
theorem okS.lens{nb c:Nat}{S:List Int}{m:Mk}(h:okS nb c S m)(hc:c<1073741824)(hn:nb<1073741824):Te m.bs:=⟨by rw[(okM.bnd h.1).2.2.2.2.2.2.2.1];exact hn,okM.lens h.1 hc⟩
abbrev mc(m:Mk)(vs vb al:Value):List Value:=[vs,.int .i64 m.k,.int .i64 m.par,vb,.int .i64 m.nx,al]
abbrev KA(P:Program)(f:FuncId)(args:List Value)(D0:List Dt)(g:Nat)(vs vb al:Value)(S:List Int)(m st:Mk)(val:Value):Prop :=
 Tr P f (.pointer (some ⟨g,0,none⟩)::args).toArray (dv (rL (rI .i64)) vs S::D0) [bx g 108 (mc m vs vb al)] (fun _:Unit=>val) (fun _=>[]) (fun _ _=>[bx g 108 (mc st vs vb al)])
abbrev KB(P:Program)(f:FuncId)(args:List Value)(D0:List Dt)(g:Nat)(vs vb al:Value)(S:List Int)(B B2:Nat)(qs:List BV)(E:List Dt)(m st:Mk)(val:Value):Prop :=
 Tr P f (.pointer (some ⟨g,0,none⟩)::args).toArray (dv (rL (rI .i64)) vs S::D0) [bx g 108 (mc m vs vb al),gl B (rI .i64) 3 al m.lv,bk B2 vb qs m.bs] (fun _:Value×List BV=>val) (fun _=>E) (fun _ p=>[bx g 108 (mc st vs vb p.1),gl B (rI .i64) 3 p.1 st.lv,bk B2 vb p.2 st.bs])
abbrev KD{α:Type}(P:Program)(f:FuncId)(args:List Value)(D0:List Dt)(g:Nat)(vs vb al:Value)(S:List Int)(r:Rp α)(a:α)(m st:Mk):Prop :=
 Tr P f (.pointer (some ⟨g,0,none⟩)::args).toArray (dv (rL (rI .i64)) vs S::D0) [bx g 108 (mc m vs vb al)] (fun v:Value=>v) (fun v=>[dv r v a]) (fun _ _=>[bx g 108 (mc st vs vb al)])
def wf(k:IntKind)(n:Int):Dt:=⟨fun _=>k.wrap n=n,fun _ h=>h⟩
theorem wca{Γ:List Dt}{L:List Res}{k:IntKind}{a b:Int}(e:a=b)(h:Wr Γ L k b):Nd Γ L (wf k a):=e▸h
theorem wfw{Γ:List Dt}{L:List Res}{k:IntKind}{a:Int}(h:Nd Γ L (wf k a)):Wr Γ L k a:=h
theorem kck{L M N Ls:List Res}{B:Nat}{v:Value}{qs:List BV}{bs bs':List D.Block}(e:bs'=bs)(h:Tk L (bk B v qs bs) M)(h':Tks M Ls N):Tks L (bk B v qs bs'::Ls) N:=e▸kc h h'
section
variable{P:Program}{Γ Γ' E D0:List Dt}{L M N:List Res}{e:Env}{X:Cx}{n:Fs}{w0:World}{Q:Exit→Act→World→Prop}{ops:Array Oper}{d:Nat}{ty:TypeId}{pos:String}{af:Array Edge}{rest:List Oper}{f:FuncId}{h:Operand}{xs:List Operand}{ws:List Value}{ts:Array TypeId}{g B B2 nb c:Nat}{vs vb al val:Value}{S:List Int}{m st:Mk}{qs:List BV}
theorem Yj(h:KA P f ws D0 g vs vb al S m st val):KA P f (ws++[]) D0 g vs vb al S m st val:=by rw[List.append_nil];exact h
theorem TP(h:KB P f ws D0 g vs vb al S B B2 qs E m st val):KB P f (ws++[]) D0 g vs vb al S B B2 qs E m st val:=by rw[List.append_nil];exact h
theorem jka(hE:Ent P f)(hf:ev e h=some (.func (.func f) #[] #[]))(hl:evl e xs=some (.pointer (some ⟨g,0,none⟩)::ws))(hT:KA P f ws D0 g vs vb al S m st val)(hd:Sd Γ L (dv (rL (rI .i64)) vs S::D0))(hk:Tk L (bx g 108 (mc m vs vb al)) M)(ok:okS nb c S st)
  (k:∀x,x=st→okS nb c S x→bnd nb c x→LH P n w0 ops Q X Γ (bx g 108 (mc x vs vb al)::M) ((d,val)::e) rest) (hd1:Nat.blt d n.sz=true:=by rfl):LH P n w0 ops Q X Γ L e (⟨some d,.call { callee := .value h,args:=xs.toArray,argTypes:=ts },ty,pos,af,none⟩::rest) :=
 jc (cs:=[]) hE hf hl (Yj hT) hd (kc hk kn) (fun _=>rfl) (fun _=>rfl) (fun _=>k st rfl ok (okM.bnd ok.1)) hd1
theorem Uv{A:Res}{Ls:List Res}(h:Tks L (A::Ls) M):Tks L [A] (Ls++M) where
 ok:=fun o=>by
  obtain⟨⟨a,b,c⟩,m,dj⟩:=h.ok o
  exact⟨⟨a,fun _ _=>id,trivial⟩,Ok.app c m (fun k hk=>dj k (.inr hk)),fun k hk ho=>(Own.app.1 ho).elim (fun h2=>b k (hk.resolve_right id) h2) (dj k (.inl (hk.resolve_right id)))⟩
 own:=fun ho=>h.own (ho.elim (fun h => .inl (.inl (h.resolve_right id))) (fun h=>(Own.app.1 h).imp .inr id))
theorem jkr(hE:Ent P f)(hf:ev e h=some (.func (.func f) #[] #[]))(hl:evl e xs=some (.pointer (some ⟨g,0,none⟩)::ws))(hT:KA P f ws D0 g vs vb al S m st val)(hd:Sd Γ L (dv (rL (rI .i64)) vs S::D0))(hk:Tks L [bx g 108 (mc m vs vb al),gl B (rI .i64) 3 al m.lv,bk B2 vb qs m.bs] M)(ok:okS nb c S st)
  (k:∀x,x=st→okS nb c S x→bnd nb c x→LH P n w0 ops Q X Γ (bx g 108 (mc x vs vb al)::gl B (rI .i64) 3 al x.lv::bk B2 vb qs x.bs::M) ((d,val)::e) rest) (h1:st.lv=m.lv:=by rfl) (h2:st.bs=m.bs:=by rfl) (hd1:Nat.blt d n.sz=true:=by rfl):LH P n w0 ops Q X Γ L e (⟨some d,.call { callee := .value h,args:=xs.toArray,argTypes:=ts },ty,pos,af,none⟩::rest) :=
 jc (cs:=[]) hE hf hl (Yj hT) hd (Uv hk) (fun _=>rfl) (fun _=>rfl) (fun _=>by have:=k st rfl ok (okM.bnd ok.1);rw[h1,h2] at this;exact this) hd1
theorem jkb(hE:Ent P f)(hf:ev e h=some (.func (.func f) #[] #[]))(hl:evl e xs=some (.pointer (some ⟨g,0,none⟩)::ws))(hT:KB P f ws D0 g vs vb al S B B2 qs E m st val)(hd:Sd Γ L (dv (rL (rI .i64)) vs S::D0))(hk:Tks L [bx g 108 (mc m vs vb al),gl B (rI .i64) 3 al m.lv,bk B2 vb qs m.bs] M)(ok:okS nb c S st)(hp:Ap E Γ Γ')
  (k:∀x,x=st→okS nb c S x→bnd nb c x→∀al' qs',Sv al'→LH P n w0 ops Q X Γ' (bx g 108 (mc x vs vb al')::gl B (rI .i64) 3 al' x.lv::bk B2 vb qs' x.bs::M) ((d,val)::e) rest) (hd1:Nat.blt d n.sz=true:=by rfl):LH P n w0 ops Q X Γ L e (⟨some d,.call { callee := .value h,args:=xs.toArray,argTypes:=ts },ty,pos,af,none⟩::rest) :=
 jc (cs:=[]) hE hf hl (TP hT) hd hk (fun _=>hp) (fun _=>rfl) (fun p=>jgo k1 fun h9=>k st rfl ok (okM.bnd ok.1) p.1 p.2 h9) hd1
theorem jkg{j t:Nat}{want Bb:Bool}{u:Value}(hj:(ops[j]?).bind (·.dst)=some t)(hu:lk e t=some u)(hB:Gd u want Bb)(hE:Ent P f)(hf:ev e h=some (.func (.func f) #[] #[]))(hl:Bb=true→evl e xs=some (.pointer (some ⟨g,0,none⟩)::ws))(hT:KA P f ws D0 g vs vb al S m st val)(hd:Sd Γ L (dv (rL (rI .i64)) vs S::D0))(hk:Tks L [bx g 108 (mc m vs vb al),gl B (rI .i64) 3 al m.lv,bk B2 vb qs m.bs] M)(ok:okS nb c S (if Bb then st else m))
  (k:∀x,x=(if Bb then st else m)→okS nb c S x→bnd nb c x→LH P n w0 ops Q X Γ (bx g 108 (mc x vs vb al)::gl B (rI .i64) 3 al x.lv::bk B2 vb qs x.bs::M) ((d,gv Bb val)::e) rest) (h1:st.lv=m.lv:=by rfl) (h2:st.bs=m.bs:=by rfl) (hd1:Nat.blt d n.sz=true:=by rfl) (ht:Nat.blt t n.sz=true:=by rfl):LH P n w0 ops Q X Γ L e (⟨some d,.call { callee := .value h,args:=xs.toArray,argTypes:=ts },ty,pos,af,some (j,want)⟩::rest):=fun F H hp=>by
 have hk1:=Uv hk
 refine LF.gcallF hj hu hB (fun hb=>Lc.fnc (cs:=[]) hE hf (hl hb)) (fun _=>(Yj hT).run hp hd hk1) (fun v' H' hz=>?_) hd1 ht
 rcases hz with⟨hb,_,F',rfl,h9⟩|⟨hb,rfl⟩
 ·subst hb
  have:=k st (by simp) (by simpa using ok) (okM.bnd (by simpa using ok.1))
  rw[h1,h2] at this
  exact this F' H' h9
 ·subst hb
  have:=k m (by simp) (by simpa using ok) (okM.bnd (by simpa using ok.1))
  exact this F _ (Jl hp hk)
theorem UO{j t:Nat}{want Bb:Bool}{u:Value}(hj:(ops[j]?).bind (·.dst)=some t)(hu:lk e t=some u)(hB:Gd u want Bb)(hE:Ent P f)(hf:ev e h=some (.func (.func f) #[] #[]))(hl:Bb=true→evl e xs=some (.pointer (some ⟨g,0,none⟩)::ws))(hT:KA P f ws D0 g vs vb al S m st val)(hd:Sd Γ L (dv (rL (rI .i64)) vs S::D0))(hk:Tk L (bx g 108 (mc m vs vb al)) M)(ok:okS nb c S (if Bb then st else m))
  (k:∀x,x=(if Bb then st else m)→okS nb c S x→bnd nb c x→LH P n w0 ops Q X Γ (bx g 108 (mc x vs vb al)::M) ((d,gv Bb val)::e) rest) (hd1:Nat.blt d n.sz=true:=by rfl) (ht:Nat.blt t n.sz=true:=by rfl):LH P n w0 ops Q X Γ L e (⟨some d,.call { callee := .value h,args:=xs.toArray,argTypes:=ts },ty,pos,af,some (j,want)⟩::rest):=fun F H hp=>by
 refine LF.gcallF hj hu hB (fun hb=>Lc.fnc (cs:=[]) hE hf (hl hb)) (fun _=>(Yj hT).run hp hd hk.tks) (fun v' H' hz=>?_) hd1 ht
 rcases hz with⟨hb,_,F',rfl,h9⟩|⟨hb,rfl⟩
 ·subst hb
  exact k st (by simp) (by simpa using ok) (okM.bnd (by simpa using ok.1)) F' H' h9
 ·subst hb
  exact k m (by simp) (by simpa using ok) (okM.bnd (by simpa using ok.1)) F _ (hp.front hk)
theorem jkd{α:Type}{r:Rp α}{N':Nat}{a:List α}(hE:Ent P f)(hf:ev e h=some (.func (.func f) #[] #[]))(hl:evl e xs=some (.pointer (some ⟨g,0,none⟩)::ws))(hT:KD P f (ws++[]) D0 g vs vb al S (rLn N' r) a m st)(hd:Sd Γ L (dv (rL (rI .i64)) vs S::D0))(hk:Tks L [bx g 108 (mc m vs vb al),gl B (rI .i64) 3 al m.lv,bk B2 vb qs m.bs] M)(ok:okS nb c S st)
  (k:∀x,x=st→okS nb c S x→bnd nb c x→∀v,Qn N' a.length→Sv v→LH P n w0 ops Q X (dv (rLn N' r) v a::Γ) (bx g 108 (mc x vs vb al)::gl B (rI .i64) 3 al x.lv::bk B2 vb qs x.bs::M) ((d,v)::e) rest) (h1:st.lv=m.lv:=by rfl) (h2:st.bs=m.bs:=by rfl) (hd1:Nat.blt d n.sz=true:=by rfl):LH P n w0 ops Q X Γ L e (⟨some d,.call { callee := .value h,args:=xs.toArray,argTypes:=ts },ty,pos,af,none⟩::rest) :=
 jc (cs:=[]) hE hf hl hT hd (Uv hk) (fun _=>rfl) (fun _=>rfl) (fun v=>jdq d0 fun h8 h9=>by have:=k st rfl ok (okM.bnd ok.1) v h8 h9;rw[h1,h2] at this;exact this) hd1
theorem jkn(st:Mk)(hk:Tks L [bx g 108 (mc st vs vb al),gl B (rI .i64) 3 al st.lv,bk B2 vb qs st.bs] M)(ok:okS nb c S st)
 (k:∀x,x=st→okS nb c S x→bnd nb c x→LH P n w0 ops Q X Γ (bx g 108 (mc x vs vb al)::gl B (rI .i64) 3 al x.lv::bk B2 vb qs x.bs::M) e rest):LH P n w0 ops Q X Γ L e rest:=fun F H hp=>k st rfl ok (okM.bnd ok.1) F H (Jl hp hk)
theorem Yn(st:Mk)(hk:Tk L (bx g 108 (mc st vs vb al)) M)(ok:okS nb c S st)
 (k:∀x,x=st→okS nb c S x→bnd nb c x→LH P n w0 ops Q X Γ (bx g 108 (mc x vs vb al)::M) e rest):LH P n w0 ops Q X Γ L e rest:=fun F H hp=>k st rfl ok (okM.bnd ok.1) F H (hp.front hk)
end
theorem IX:Fld Tryz.prog 108 0 0:=⟨_,_,Tryz.underlying108,rfl,rfl,1,(by unfold Sz;kernel_rfl),by decide⟩
theorem Us:Fld Tryz.prog 108 1 1:=⟨_,_,Tryz.underlying108,rfl,rfl,1,(by unfold Sz;kernel_rfl),by decide⟩
theorem Du{vs vb al:Value}{m:Mk}{nb c:Nat}{S:List Int}{g0:Nat}(hok:okS nb c S m)(hc:c≤1000000)(n:Int)(hn9:0<n∧n≤1000000000):KA Tryz.prog 47 [.int .i64 n] [] g0 vs vb al S m (tSS m) (.int .i64 (tVV n m)):=by
 refine Af (args:=[.pointer (some ⟨g0,0,none⟩),.int .i64 n]) Tryz.func47 rfl rfl rfl fun w0 X=>?_
 have bd0:=okM.bnd hok.1
 refine jq (jr (ja Z (jn (jx (jq (jr (ja Z (jn (jx (jq (jq ?_)))))))))))
 refine Jj Bh (by kernel_rfl) (jt (jmv Z) (jt (Ad Z) (jt (jf Us Z) (jt (jl k0 O3 Z Z) (jt (jmv Z) (jt (Ad Z) (jt (jf IX Z) (jt (jl k0 O22 Z Z) (tdq d0 fun q1 w1=>jt (jln U22 d0 Z) (jt (Ai Z Z) ?_))))))))))
 refine jdn (jx ?_)
 refine jif Z (fun hc1=>?_) (fun hc1=>?_)
 refine Jj Bh (by kernel_rfl) (jt (jmv Z) (jt (Ad Z) (jt (jf IX Z) (jt (jl k0 O22 Z Z) (jt (jmv Z) (jt (Ad Z) (jt (jf Us Z) (jt (jl k0 O3 Z Z) (jt (jix (i:=(Int.toNat m.k)) U22 Z3 d0 Z Z (by omega) (by omega)) (jt (jlI (dix d0 (Int.toNat m.k) (by omega)) O3 Z) (jt (jas Z) ?_)))))))))))
 refine jdn (jx (jq (jr (jm Z (jm Z (js (Ad Z) (js (jf Us Z) (js (jl k0 O3 Z Z) (js (Ac Z Z (by omega)) (js (Ad Z) (js (jf Us Z) ?_)))))))))))
 refine jst k0 Z3 Z Z Z s1 (Yn (c:=c+1) ({ m with k:=m.k+1 }) k0 ⟨(okM.setk hok.1 (by omega) (by omega)),hok.2⟩ fun ms2 hms2 oms2 bms2=>?_)
 clear bd0
 refine jn (jx (jq (jr (jm Z (jm Z (js (Mo Z Z (by omega)) (jm Z ?_)))))))
 have hz1:=Int.tmod_lt_of_pos (ix S (Int.toNat m.k)) hn9.1
 have hz2:=Int.lt_tmod_of_pos (ix S (Int.toNat m.k)) hn9.1
 refine js (Ac Z Z (by omega)) (jm Z (js (Mo Z Z (by omega)) (ja Z (jn (jx (jrt ?_))))))
 have hv0:tVV n m=(Int.tmod ((Int.tmod (ix S (Int.toNat m.k)) n)+n) n):=(by(try simp only[hms2] at hc1);(try simp only[hms2]);simp only[tVV,hok.2];simp[*])
 have hst:ms2=tSS m:=(by(try simp only[hms2] at hc1);(try simp only[hms2]);all_goals first|rfl|(simp[tVV,tSS,hc1];done)|(simp[tVV,tSS,hc1];rfl)|(unfold tVV tSS;(repeat' split)<;>first|rfl|(exfalso;omega)|(simp[hc1] at *;done)|(simp_all;done)))
 exact jr1 Z Z () (by rw[hv0]<;>rfl) dn (fun _ _=>(kcb (by rw[←hst]) k0 kn))
 refine jsk (jx (jq (jr (jm Z (jm Z (js (Ad Z) (js (jf Us Z) (js (jl k0 O3 Z Z) (js (Ac Z Z (by omega)) (js (Ad Z) (js (jf Us Z) ?_)))))))))))
 refine jst k0 Z3 Z Z Z s1 (Yn (c:=c+1) ({ m with k:=m.k+1 }) k0 ⟨(okM.setk hok.1 (by omega) (by omega)),hok.2⟩ fun ms3 hms3 oms3 bms3=>?_)
 clear bd0
 refine jn (jx (jq (jr (jm Z (jm Z (js (Mo Z Z (by omega)) (jm Z ?_)))))))
 have hz1:=Int.tmod_lt_of_pos 0 hn9.1
 have hz2:=Int.lt_tmod_of_pos 0 hn9.1
 refine js (Ac Z Z (by omega)) (jm Z (js (Mo Z Z (by omega)) (ja Z (jn (jx (jrt ?_))))))
 have hv0:tVV n m=(Int.tmod ((Int.tmod 0 n)+n) n):=(by(try simp only[hms3] at hc1);(try simp only[hms3]);simp only[tVV,hok.2];simp[*])
 have hst:ms3=tSS m:=(by(try simp only[hms3] at hc1);(try simp only[hms3]);all_goals first|rfl|(simp[tVV,tSS,hc1];done)|(simp[tVV,tSS,hc1];rfl)|(unfold tVV tSS;(repeat' split)<;>first|rfl|(exfalso;omega)|(simp[hc1] at *;done)|(simp_all;done)))
 exact jr1 Z Z () (by rw[hv0]<;>rfl) dn (fun _ _=>(kcb (by rw[←hst]) k0 kn))
theorem E47:Ent Tryz.prog 47:=⟨_,Tryz.func47,by kernel_rfl,by kernel_rfl⟩
theorem B3:Fld Tryz.prog 108 3 4:=⟨_,_,Tryz.underlying108,rfl,rfl,1,(by unfold Sz;kernel_rfl),by decide⟩
theorem Je:Fld Tryz.prog 108 4 5:=⟨_,_,Tryz.underlying108,rfl,rfl,1,(by unfold Sz;kernel_rfl),by decide⟩
theorem Nb:Fld Tryz.prog 67 0 0:=⟨_,_,Tryz.underlying67,rfl,rfl,1,(by unfold Sz;kernel_rfl),by decide⟩
theorem Gh:Fld Tryz.prog 67 1 1:=⟨_,_,Tryz.underlying67,rfl,rfl,1,(by unfold Sz;kernel_rfl),by decide⟩
theorem Zv:Fld Tryz.prog 67 2 2:=⟨_,_,Tryz.underlying67,rfl,rfl,1,(by unfold Sz;kernel_rfl),by decide⟩
theorem Gn{vs vb al:Value}{m:Mk}{nb c:Nat}{S:List Int}{g0:Nat}(hok:okS nb c S m)(hc:c≤1000000):KA Tryz.prog 64 [] [] g0 vs vb al S m (Aq m) (.int .i64 m.nx):=by
 refine Af (args:=[.pointer (some ⟨g0,0,none⟩)]) Tryz.func64 rfl rfl rfl fun w0 X=>?_
 have bd0:=okM.bnd hok.1
 refine jq (jr (ja Z (jn (jx (jq (jr (jm Z (jm Z (js (Ad Z) (js (jf B3 Z) (js (jl k0 O3 Z Z) ?_)))))))))))
 refine js (Ac Z Z (by omega)) (js (Ad Z) (js (jf B3 Z) (jst k0 Z3 Z Z Z s4 (Yn (c:=c+1) ({ m with nx:=m.nx+1 }) k0 ⟨(okM.setnx hok.1 (by omega) (by omega)),hok.2⟩ fun ms1 hms1 oms1 bms1=>?_))))
 clear bd0
 refine jn (jx (jq (jr (jm Z (js (Ad Z) (js (jf B3 Z) (js (jl k0 O3 Z Z) (js (Gg Z Z (by omega)) (ja Z (jn (jx ?_)))))))))))
 refine jrt ?_
 have hv0:m.nx=(ms1.nx-1):=(by(try simp only[hms1]);simp)
 have hst:ms1=Aq m:=(by(try simp only[hms1]);all_goals first|rfl|(simp[Aq];done)|(simp[Aq];rfl)|(unfold Aq;(repeat' split)<;>first|rfl|(exfalso;omega)|(simp[] at *;done)|(simp_all;done)))
 exact jr1 Z Z () (by rw[hv0]<;>rfl) dn (fun _ _=>(kcb (by rw[←hst]) k0 kn))
theorem Pq{vs vb al:Value}{m:Mk}{nb c:Nat}{S:List Int}{g0:Nat}(hok:okS nb c S m)(hc:c≤990000):KA Tryz.prog 71 [] [] g0 vs vb al S m (Cb m) (.int .i32 (Ar m)):=by
 refine Af (args:=[.pointer (some ⟨g0,0,none⟩)]) Tryz.func71 rfl rfl rfl fun w0 X=>?_
 have bd0:=okM.bnd hok.1
 refine jq (jr (ja Z (jn (jx (jq (jr (jm Z (jka E47 Z Z (Du hok (by omega) 1048576 (by omega)) (dc d0 dn) k0 ⟨tO9 hok.1,hok.2⟩ fun m5 hm5 om5 bm5=>?_))))))))
 have w5_0:IntKind.i64.wrap (tVV 1048576 m)=tVV 1048576 m:=(IntWalk.i64_in _ (by have h9:=@tV9 1048576 (by omega) m;omega))
 have tr5:=@tV9 1048576 (by omega) m
 clear bd0
 refine ja Z (jn (jx (jq (jq (jr (jm Z (jka E47 Z Z (Du om5 (by omega) 8 (by omega)) (dc d0 dn) k0 ⟨tO9 om5.1,om5.2⟩ fun m7 hm7 om7 bm7=>?_)))))))
 have w7_0:IntKind.i64.wrap (tVV 8 m5)=tVV 8 m5:=(IntWalk.i64_in _ (by have h9:=@tV9 8 (by omega) m5;omega))
 have tr7:=@tV9 8 (by omega) m5
 clear bm5
 refine jn (jx (jb (jq (jr (js (Aj Z Z) (ja Z (jn (jx ?_))))))))
 refine jif Z (fun hc1=>?_) (fun hc1=>?_)
 refine jq (jr (jm Z (js (ES Z Z (by omega)) (js (jco U3 U21 Z Z) (ja Z (jn (jx (jrt (jbr (jtr ?_))))))))))
 have hv0:Ar m=(IntKind.i32.wrap ((tVV 1048576 m)*4099)):=(by(try simp only[hm5,hm7] at hc1);(try simp only[hm5,hm7]);have w1:IntKind.i64.wrap (0-tVV 1048576 m)=0-tVV 1048576 m:=IntWalk.i64_in _ (by omega);have w2:IntKind.i32.wrap (0-tVV 1048576 m)=0-tVV 1048576 m:=IntWalk.i32_in _ (by omega);have a1:=Int.tmod_nonneg 70000 tr5.1;have a2:=Int.tmod_lt_of_pos (tVV 1048576 m) (b:=70000) (by omega);have a3:=Int.tmod_nonneg 20 tr5.1;have a4:=Int.tmod_lt_of_pos (tVV 1048576 m) (b:=20) (by omega);have w3:IntKind.i32.wrap (Int.tmod (tVV 1048576 m) 70000)=Int.tmod (tVV 1048576 m) 70000:=IntWalk.i32_in _ (by omega);have w4:IntKind.i32.wrap (Int.tmod (tVV 1048576 m) 20-4)=Int.tmod (tVV 1048576 m) 20-4:=IntWalk.i32_in _ (by omega);first|(rw[w1,w2];simp[Ar,hc1];done)|(rw[w3];simp[Ar,hc1];done)|(rw[w4];simp[Ar,hc1];done)|(simp[Ar,hc1];done))
 have hst:m7=Cb m:=(by(try simp only[hm5,hm7] at hc1);(try simp only[hm5,hm7]);all_goals first|rfl|(simp[Ar,Cb,hc1];done)|(simp[Ar,Cb,hc1];rfl)|(unfold Ar Cb;(repeat' split)<;>first|rfl|(exfalso;omega)|(simp[hc1] at *;done)|(simp_all;done)))
 exact jr1 Z Z () (by rw[hv0]<;>rfl) dn (fun _ _=>(kcb (by rw[←hst]) k0 kn))
 refine jq (jr (js (Aj Z Z) (ja Z (jn (jx ?_)))))
 refine jif Z (fun hc2=>?_) (fun hc2=>?_)
 refine jq (jr (jm Z (js (UK Z) (js (jco U3 U21 Z Z) (ja Z (jn (jx (jrt (jbr (jtr ?_))))))))))
 have hv0:Ar m=(IntKind.i32.wrap (IntKind.i64.wrap (0-(tVV 1048576 m)))):=(by(try simp only[hm5,hm7] at hc1 hc2);(try simp only[hm5,hm7]);have w1:IntKind.i64.wrap (0-tVV 1048576 m)=0-tVV 1048576 m:=IntWalk.i64_in _ (by omega);have w2:IntKind.i32.wrap (0-tVV 1048576 m)=0-tVV 1048576 m:=IntWalk.i32_in _ (by omega);have a1:=Int.tmod_nonneg 70000 tr5.1;have a2:=Int.tmod_lt_of_pos (tVV 1048576 m) (b:=70000) (by omega);have a3:=Int.tmod_nonneg 20 tr5.1;have a4:=Int.tmod_lt_of_pos (tVV 1048576 m) (b:=20) (by omega);have w3:IntKind.i32.wrap (Int.tmod (tVV 1048576 m) 70000)=Int.tmod (tVV 1048576 m) 70000:=IntWalk.i32_in _ (by omega);have w4:IntKind.i32.wrap (Int.tmod (tVV 1048576 m) 20-4)=Int.tmod (tVV 1048576 m) 20-4:=IntWalk.i32_in _ (by omega);first|(rw[w1,w2];simp[Ar,hc1,hc2];done)|(rw[w3];simp[Ar,hc1,hc2];done)|(rw[w4];simp[Ar,hc1,hc2];done)|(simp[Ar,hc1,hc2];done))
 have hst:m7=Cb m:=(by(try simp only[hm5,hm7] at hc1 hc2);(try simp only[hm5,hm7]);all_goals first|rfl|(simp[Ar,Cb,hc1,hc2];done)|(simp[Ar,Cb,hc1,hc2];rfl)|(unfold Ar Cb;(repeat' split)<;>first|rfl|(exfalso;omega)|(simp[hc1,hc2] at *;done)|(simp_all;done)))
 exact jr1 Z Z () (by rw[hv0]<;>rfl) dn (fun _ _=>(kcb (by rw[←hst]) k0 kn))
 refine jq (jr (js (Aj Z Z) (ja Z (jn (jx ?_)))))
 refine jif Z (fun hc3=>?_) (fun hc3=>?_)
 refine jq (jr (ja Z (jn (jx (jrt (jbr (jtr ?_)))))))
 have hv0:Ar m=(-2147483648):=(by(try simp only[hm5,hm7] at hc1 hc2 hc3);(try simp only[hm5,hm7]);have w1:IntKind.i64.wrap (0-tVV 1048576 m)=0-tVV 1048576 m:=IntWalk.i64_in _ (by omega);have w2:IntKind.i32.wrap (0-tVV 1048576 m)=0-tVV 1048576 m:=IntWalk.i32_in _ (by omega);have a1:=Int.tmod_nonneg 70000 tr5.1;have a2:=Int.tmod_lt_of_pos (tVV 1048576 m) (b:=70000) (by omega);have a3:=Int.tmod_nonneg 20 tr5.1;have a4:=Int.tmod_lt_of_pos (tVV 1048576 m) (b:=20) (by omega);have w3:IntKind.i32.wrap (Int.tmod (tVV 1048576 m) 70000)=Int.tmod (tVV 1048576 m) 70000:=IntWalk.i32_in _ (by omega);have w4:IntKind.i32.wrap (Int.tmod (tVV 1048576 m) 20-4)=Int.tmod (tVV 1048576 m) 20-4:=IntWalk.i32_in _ (by omega);first|(rw[w1,w2];simp[Ar,hc1,hc2,hc3];done)|(rw[w3];simp[Ar,hc1,hc2,hc3];done)|(rw[w4];simp[Ar,hc1,hc2,hc3];done)|(simp[Ar,hc1,hc2,hc3];done))
 have hst:m7=Cb m:=(by(try simp only[hm5,hm7] at hc1 hc2 hc3);(try simp only[hm5,hm7]);all_goals first|rfl|(simp[Ar,Cb,hc1,hc2,hc3];done)|(simp[Ar,Cb,hc1,hc2,hc3];rfl)|(unfold Ar Cb;(repeat' split)<;>first|rfl|(exfalso;omega)|(simp[hc1,hc2,hc3] at *;done)|(simp_all;done)))
 exact jr1 Z Z () (by rw[hv0]<;>rfl) dn (fun _ _=>(kcb (by rw[←hst]) k0 kn))
 refine jq (jr (js (Aj Z Z) (ja Z (jn (jx ?_)))))
 refine jif Z (fun hc4=>?_) (fun hc4=>?_)
 refine jq (jr (jm Z (js (Mo Z Z (by decide)) (js (jco U3 U21 Z Z) (ja Z (jn (jx (jrt (jbr (jtr ?_))))))))))
 have hv0:Ar m=(IntKind.i32.wrap (Int.tmod (tVV 1048576 m) 70000)):=(by(try simp only[hm5,hm7] at hc1 hc2 hc3 hc4);(try simp only[hm5,hm7]);have w1:IntKind.i64.wrap (0-tVV 1048576 m)=0-tVV 1048576 m:=IntWalk.i64_in _ (by omega);have w2:IntKind.i32.wrap (0-tVV 1048576 m)=0-tVV 1048576 m:=IntWalk.i32_in _ (by omega);have a1:=Int.tmod_nonneg 70000 tr5.1;have a2:=Int.tmod_lt_of_pos (tVV 1048576 m) (b:=70000) (by omega);have a3:=Int.tmod_nonneg 20 tr5.1;have a4:=Int.tmod_lt_of_pos (tVV 1048576 m) (b:=20) (by omega);have w3:IntKind.i32.wrap (Int.tmod (tVV 1048576 m) 70000)=Int.tmod (tVV 1048576 m) 70000:=IntWalk.i32_in _ (by omega);have w4:IntKind.i32.wrap (Int.tmod (tVV 1048576 m) 20-4)=Int.tmod (tVV 1048576 m) 20-4:=IntWalk.i32_in _ (by omega);first|(rw[w1,w2];simp[Ar,hc1,hc2,hc3,hc4];done)|(rw[w3];simp[Ar,hc1,hc2,hc3,hc4];done)|(rw[w4];simp[Ar,hc1,hc2,hc3,hc4];done)|(simp[Ar,hc1,hc2,hc3,hc4];done))
 have hst:m7=Cb m:=(by(try simp only[hm5,hm7] at hc1 hc2 hc3 hc4);(try simp only[hm5,hm7]);all_goals first|rfl|(simp[Ar,Cb,hc1,hc2,hc3,hc4];done)|(simp[Ar,Cb,hc1,hc2,hc3,hc4];rfl)|(unfold Ar Cb;(repeat' split)<;>first|rfl|(exfalso;omega)|(simp[hc1,hc2,hc3,hc4] at *;done)|(simp_all;done)))
 exact jr1 Z Z () (by rw[hv0]<;>rfl) dn (fun _ _=>(kcb (by rw[←hst]) k0 kn))
 refine jsk (jbn (jx (jq (jr (jm Z (js (Mo Z Z (by decide)) ?_))))))
 have b3:=Int.tmod_nonneg 20 tr5.1
 have b4:=Int.tmod_lt_of_pos (tVV 1048576 m) (b:=20) (by omega)
 refine js (Gg Z Z (by omega)) (js (jco U3 U21 Z Z) (ja Z (jn (jx (jrt ?_)))))
 have hv0:Ar m=(IntKind.i32.wrap ((Int.tmod (tVV 1048576 m) 20)-4)):=(by(try simp only[hm5,hm7] at hc1 hc2 hc3 hc4);(try simp only[hm5,hm7]);have w1:IntKind.i64.wrap (0-tVV 1048576 m)=0-tVV 1048576 m:=IntWalk.i64_in _ (by omega);have w2:IntKind.i32.wrap (0-tVV 1048576 m)=0-tVV 1048576 m:=IntWalk.i32_in _ (by omega);have a1:=Int.tmod_nonneg 70000 tr5.1;have a2:=Int.tmod_lt_of_pos (tVV 1048576 m) (b:=70000) (by omega);have a3:=Int.tmod_nonneg 20 tr5.1;have a4:=Int.tmod_lt_of_pos (tVV 1048576 m) (b:=20) (by omega);have w3:IntKind.i32.wrap (Int.tmod (tVV 1048576 m) 70000)=Int.tmod (tVV 1048576 m) 70000:=IntWalk.i32_in _ (by omega);have w4:IntKind.i32.wrap (Int.tmod (tVV 1048576 m) 20-4)=Int.tmod (tVV 1048576 m) 20-4:=IntWalk.i32_in _ (by omega);first|(rw[w1,w2];simp[Ar,hc1,hc2,hc3,hc4];done)|(rw[w3];simp[Ar,hc1,hc2,hc3,hc4];done)|(rw[w4];simp[Ar,hc1,hc2,hc3,hc4];done)|(simp[Ar,hc1,hc2,hc3,hc4];done))
 have hst:m7=Cb m:=(by(try simp only[hm5,hm7] at hc1 hc2 hc3 hc4);(try simp only[hm5,hm7]);all_goals first|rfl|(simp[Ar,Cb,hc1,hc2,hc3,hc4];done)|(simp[Ar,Cb,hc1,hc2,hc3,hc4];rfl)|(unfold Ar Cb;(repeat' split)<;>first|rfl|(exfalso;omega)|(simp[hc1,hc2,hc3,hc4] at *;done)|(simp_all;done)))
 exact jr1 Z Z () (by rw[hv0]<;>rfl) dn (fun _ _=>(kcb (by rw[←hst]) k0 kn))
theorem Xp{a0:Value}{i:D.Ins}:Td Tryz.prog 66 #[vIns i a0] [da Ae (vIns i a0) i] [] (rL (rI .i64)) (Aw i):=by
 refine Af (args:=[vIns i a0]) Tryz.func66 rfl rfl rfl fun w0 X=>?_
 refine jq (jr (Bj Z Z fun g1=>ja Z (jn (jx (jq (jq (jr (js (jf Nb Z) (js (jl k0 O3 Z Z) (jn ?_))))))))))
 refine jx (jb (jq (jr (js (Aj Z Z) (ja Z (jn (jx ?_)))))))
 refine jif Z (fun hc1=>?_) (fun hc1=>?_)
 refine jq (jr (ja Z (jn (jx (jrt (jbr (jtr ?_)))))))
 exact jrD Z Z (by simp[Aw, *]) wN
 refine jq (jr (js (Aj Z Z) (ja Z (jn (jx ?_)))))
 refine jif Z (fun hc2=>?_) (fun hc2=>?_)
 refine jq (jr (js (jf Gh Z) (js (jl k0 O3 Z Z) (js (jf Zv Z) (js (jl k0 O3 Z Z) (Ba (r:=(rI .i64)) (l:=[i.Dst,i.Two]) U22 I3 (by decide) Z Z Z (lV Z Z (wI (Ae.W_Dst d0)) (lV Z Z (wI (Ae.W_Two d0)) ln)) fun g13=>ja Z (jn (jx (jrt (jbr ?_))))))))))
 refine jtr (qfz k0 (by(try simp)<;>omega) ?_)
 exact jrD Z Z (by simp[Aw, *]) d0
 refine jsk (jbn (jx (jq (jr (js (jf Gh Z) (js (jl k0 O3 Z Z) (Ba (r:=(rI .i64)) (l:=[i.Dst]) U22 I3 (by decide) Z Z Z (lV Z Z (wI (Ae.W_Dst d0)) ln) fun g16=>ja Z (jn (jx (jrt ?_))))))))))
 refine qfz k0 (by(try simp)<;>omega) ?_
 exact jrD Z Z (by simp[Aw, *]) d0
theorem SQ{vs vb al:Value}{m:Mk}{nb c:Nat}{S:List Int}{g0:Nat}{B0 B1:Nat}{qs:List BV}(hok:okS nb c S m)(hc:c≤990000):KB Tryz.prog 171 [] [] g0 vs vb al S B0 B1 qs [wf .i64 (Ew m)] m (Cr m) (.tuple #[.int .i64 (Ew m),.bool (En m)]):=by
 refine Af (args:=[.pointer (some ⟨g0,0,none⟩)]) Tryz.func171 rfl rfl rfl fun w0 X=>?_
 refine cgo k1 fun w1=>?_
 have bd0:=okM.bnd hok.1
 refine cbk k2 (okM.bnd hok.1).2.2.2.2.2.2.2.1 fun hvb=>jq (jr (ja Z (ja Z (jn (jx (jq (jq (jr (jm Z (js (Ad Z) ?_))))))))))
 refine js (jf Je Z) (js (jl k0 O22 Z Z) (js (jlg U22 k1 Z) (js (Aj Z Z) (jn (jx ?_)))))
 refine jif Z (fun hc1=>?_) (fun hc1=>?_)
 have hz:m.lv.length=0:=by omega
 refine jq (jr (ja Z (ja Z (jn (jx (jrt (jtr ?_)))))))
 have hv0:Ew m=0:=(by first|(simp[Ew,En,Cr,Ey,hz];done)|(simp[Ew,En,Cr,Ey,hz];rfl))
 have hv1:En m=false:=(by first|(simp[Ew,En,Cr,Ey,hz];done)|(simp[Ew,En,Cr,Ey,hz];rfl))
 have hst:m=Cr m:=(by first|(simp[Ew,En,Cr,Ey,hz];done)|(simp[Ew,En,Cr,Ey,hz];rfl))
 exact jr2 Z Z Z (al,qs) (by rw[hv0,hv1]<;>rfl) (dc (wca hv0 (wl 0)) dn) (fun _ _=>(kcb (by rw[←hst]) k0 (kcg (by rw[←hst]) k0 (kck (by rw[←hst]) k0 kn))))
 have hz:¬m.lv.length=0:=by omega
 refine jsk (jx (jq (jr (jm Z (jm Z (js (Ad Z) (js (jf Je Z) (js (jl k0 O22 Z Z) (js (jlg U22 k1 Z) (jkr E47 Z Z (Du hok (by omega) (↑(List.length m.lv)) (by omega)) (dc d0 dn) (kd (kc k0 kn)) ⟨tO9 hok.1,hok.2⟩ fun m17 hm17 om17 bm17=>?_))))))))))
 have w17_0:IntKind.i64.wrap (tVV (↑(List.length m.lv)) m)=tVV (↑(List.length m.lv)) m:=(IntWalk.i64_in _ (by have h9:=@tV9 (↑(List.length m.lv)) (by omega) m;omega))
 have tr17:=@tV9 (↑(List.length m.lv)) (by omega) m
 have llm17:List.length m17.lv=List.length m.lv:=by rw[hm17]<;>rfl
 clear bd0
 refine ja Z (jn (jx (jq (jq (jr (jm Z (jkr E47 Z Z (Du om17 (by omega) 3 (by omega)) (dc d0 dn) (kd (kc k0 kn)) ⟨tO9 om17.1,om17.2⟩ fun m19 hm19 om19 bm19=>?_)))))))
 have w19_0:IntKind.i64.wrap (tVV 3 m17)=tVV 3 m17:=(IntWalk.i64_in _ (by have h9:=@tV9 3 (by omega) m17;omega))
 have tr19:=@tV9 3 (by omega) m17
 have llm19:List.length m19.lv=List.length m17.lv:=by rw[hm19]<;>rfl
 clear bm17
 refine js (Aj Z Z) (jn (jx ?_))
 refine jif Z (fun hc2=>?_) (fun hc2=>?_)
 refine jr (jm Z (js (Ad Z) (js (jf Je Z) (js (jl k0 O22 Z Z) (js (jlg U22 k1 Z) (js (Gg Z Z (by omega)) (ja Z (jn (jx (jq (jr ?_)))))))))))
 refine jm Z (js (Ad Z) (js (jf Je Z) (js (jl k0 O22 Z Z) (jm Z (js (jig (i:=(Int.toNat ((↑(List.length m19.lv))-1))) U22 Z3 k1 Z Z (by omega) (by omega)) (js (jgI k1 (by omega) O3 Z) (ja Z (ja Z (jn (jx (jrt ?_)))))))))))
 have hv0:Ew m=(ix m19.lv (Int.toNat ((((List.length m19.lv:Nat):Int))-1))):=(by(try simp only[hm17,hm19] at hc1 hc2);(try simp only[hm17,hm19]);first|(simp[Ew,En,Cr,Ey,hz,hc2];done)|(simp[Ew,En,Cr,Ey,hz,hc2];rfl))
 have hv1:En m=true:=(by(try simp only[hm17,hm19] at hc1 hc2);(try simp only[hm17,hm19]);first|(simp[Ew,En,Cr,Ey,hz,hc2];done)|(simp[Ew,En,Cr,Ey,hz,hc2];rfl))
 have hst:m19=Cr m:=(by(try simp only[hm17,hm19] at hc1 hc2);(try simp only[hm17,hm19]);first|(simp[Ew,En,Cr,Ey,hz,hc2];done)|(simp[Ew,En,Cr,Ey,hz,hc2];rfl))
 exact jr2 Z Z Z (al,qs) (by rw[hv0,hv1]<;>rfl) (dc (wca hv0 (wgl k1 (by omega))) dn) (fun _ _=>(kcb (by rw[←hst]) k0 (kcg (by rw[←hst]) k0 (kck (by rw[←hst]) k0 kn))))
 refine jsk (jx (jq (jr (jm Z (js (Ad Z) (js (jf Je Z) (js (jl k0 O22 Z Z) (jm Z (js (jig (i:=(Int.toNat (tVV (↑(List.length m.lv)) m))) U22 Z3 k1 Z Z (by omega) (by omega)) (js (jgI k1 (by omega) O3 Z) (ja Z ?_)))))))))))
 refine ja Z (jn (jx (jrt ?_)))
 have hv0:Ew m=(ix m19.lv (Int.toNat (tVV (((List.length m.lv:Nat):Int)) m))):=(by(try simp only[hm17,hm19] at hc1 hc2);(try simp only[hm17,hm19]);first|(simp[Ew,En,Cr,Ey,hz,hc2];done)|(simp[Ew,En,Cr,Ey,hz,hc2];rfl))
 have hv1:En m=true:=(by(try simp only[hm17,hm19] at hc1 hc2);(try simp only[hm17,hm19]);first|(simp[Ew,En,Cr,Ey,hz,hc2];done)|(simp[Ew,En,Cr,Ey,hz,hc2];rfl))
 have hst:m19=Cr m:=(by(try simp only[hm17,hm19] at hc1 hc2);(try simp only[hm17,hm19]);first|(simp[Ew,En,Cr,Ey,hz,hc2];done)|(simp[Ew,En,Cr,Ey,hz,hc2];rfl))
 exact jr2 Z Z Z (al,qs) (by rw[hv0,hv1]<;>rfl) (dc (wca hv0 (wgl k1 (by omega))) dn) (fun _ _=>(kcb (by rw[←hst]) k0 (kcg (by rw[←hst]) k0 (kck (by rw[←hst]) k0 kn))))
abbrev U47:=@Tryz.underlying47
abbrev U58:=@Tryz.underlying58
theorem A67:Ag9 Tryz.prog 67:=⟨_,Tryz.underlying67,rfl⟩
theorem E66:Ent Tryz.prog 66:=⟨_,Tryz.func66,by kernel_rfl,by kernel_rfl⟩
theorem Fe:Fld Tryz.prog 108 2 2:=⟨_,_,Tryz.underlying108,rfl,rfl,2,(by unfold Sz;kernel_rfl),by decide⟩
theorem Cq:Fld Tryz.prog 49 1 1:=⟨_,_,Tryz.underlying49,rfl,rfl,1,(by unfold Sz;kernel_rfl),by decide⟩
theorem Hf:Fld Tryz.prog 62 1 1:=⟨_,_,Tryz.underlying62,rfl,rfl,1,(by unfold Sz;kernel_rfl),by decide⟩
theorem I67:(Tryz.prog.info? 67).map (fun i=>(i.zero,i.size,i.bytes))=some (some (.agg #[.int .i64 0,.int .i64 0,.int .i64 0,.slice none 0 0,.int .i32 0]),5,56):=by kernel_rfl
theorem O47:One Tryz.prog 47:=⟨_,Tryz.underlying47,rfl⟩
theorem O58:One Tryz.prog 58:=⟨_,Tryz.underlying58,rfl⟩
theorem Z58:Sz Tryz.prog 58 1:=by unfold Sz;kernel_rfl
theorem Z62:Sz Tryz.prog 62 6:=by unfold Sz;kernel_rfl
theorem Z67:Sz Tryz.prog 67 5:=by unfold Sz;kernel_rfl
theorem Gf{vs vb al:Value}{m:Mk}{nb c:Nat}{S:List Int}{g0:Nat}{B0 B1:Nat}{qs:List BV}(hok:okS nb c S m)(hc:c≤990000)(b:Int){a2:Value}{i:D.Ins}(hb9:0≤b∧b<nb):KB Tryz.prog 120 [.int .i64 b,vIns i a2] [da Ae (vIns i a2) i] g0 vs vb al S B0 B1 qs [] m (Ca b i m) (.tuple #[]):=by
 refine Af (args:=[.pointer (some ⟨g0,0,none⟩),.int .i64 b,vIns i a2]) Tryz.func120 rfl rfl rfl fun w0 X=>?_
 refine cgo k1 fun w1=>?_
 have bd0:=okM.bnd hok.1
 refine cbk k2 (okM.bnd hok.1).2.2.2.2.2.2.2.1 fun hvb=>jq (jr (Bj Z Z fun g5=>jn (jx (jq (Cp true (.a 0 (.a 1 (.a 2 (.a 3 (.a 4 (.a 5 (.a 6 (.a 7 (.a 8 (.a 9 (.a 10 (.a 11 (.a 12 (.a 13 (.a 15 (.w 14 16 (.o 16 (.o 17 (.a 18 (.a 19 (.o 20 .e))))) (.o 14 (.o 17 (.a 18 (.a 19 (.o 20 .e))))))))))))))))))))) Bh (by kernel_rfl) (kd kn) fun F2=>jy Z (jmv Z) (jy Z (Ad Z) (jy Z (jf Fe Z) (jy Z (jf Cq Z) ?_))))))))
 refine jy Z (jl k1 O47 Z Z) (jy Z (jmv Z) (jy Z (jmv Z) (jy Z (Ad Z) (jy Z (jf Fe Z) (jy Z (jf Cq Z) (jy Z (jl k1 O47 Z Z) (jy Z (jmv Z) (jy Z (Ha (j:=b.toNat) U47 Z62 hvb Z Z (by omega) (by omega)) (jy Z (jf Hf Z) (jy Z (jla k0 A67 Z67 Z Z Z) ?_))))))))))
 refine jyw Z Z ?_ ?_
 refine js (Yo k3 (by omega) O58 Z Z) (jyn d0 (kd kn) (jyo Z (Ba (r:=Ae) (l:=[i]) U58 I67 (by decide) Z Z Z (lA d3 ln) fun g23=>jyn d0 (kc k1 (kc k1 kn)) (jyo Z (jfz k0 (by(try simp)<;>omega) ?_)))))
 have hrF7:=okM.row hok.1 (j:=b.toNat) (by omega)
 refine EX b.toNat k3 (by omega) (jgo k0 fun w8=>Ev U58 I67 (by decide) Z k0 Z Z d0 (by(try simp)<;>omega) fun v24 w9=>jyn d1 (kc k2 (kc k2 kn)) (jy Z (Ha (j:=b.toNat) U47 Z62 hvb Z Z (by omega) (by omega)) (jy Z (jf Hf Z) (jyo Z (EV k0 k0 (by omega) Z58 Z Z Z w9.one (jkn (c:=c+1) ({ m with bs:=List.set m.bs b.toNat { (ix m.bs b.toNat) with Ins:=((ix m.bs b.toNat).Ins)++([i]) } }) (kc k2 (kc k2 (kc k0 kn))) ⟨(okM.setb (d:=1) hok.1 (by dsimp only;rw[List.length_append];simp only[List.length_cons,List.length_nil];omega)),hok.2⟩ fun ms11 hms11 oms11 bms11=>?_))))))
 clear bd0
 refine jyz d0 (jyd (jx (jq (jr (js (jla k3 A67 Z67 Z Z Z) (jcd E66 Z Z Xp (dc d6 dn) kn fun v28 q12 w12=>ja Z (jn (jx (jr (jm Z ?_))))))))))
 refine jm Z (js (Ad Z) (js (jf Je Z) (js (jl k0 O22 Z Z) (jm Z (Ev U22 I3 (by decide) Z k1 Z Z d0 (by(try simp)<;>omega) fun v35 w14=>js (Ad Z) (js (jf Je Z) (jst k1 Z22 Z Z w14.one s5 (jkn (c:=c+2) ({ ms11 with lv:=ms11.lv++(Aw i) }) (kd (kc k0 kn)) ⟨(okM.setlv oms11.1 (by have:=Sx i;simp only[List.length_append];omega) (by omega)),oms11.2⟩ fun ms15 hms15 oms15 bms15=>?_))))))))
 clear bms11
 refine jn ?_
 have hst:ms15=Ca b i m:=(by(try simp only[hms11,hms15]);all_goals first|rfl|(simp[Ca];done)|(simp[Ca];rfl)|(unfold Ca;(repeat' split)<;>first|rfl|(exfalso;omega)|(simp[] at *;done)|(simp_all;done)))
 exact jd0 Z (v35,List.set qs b.toNat { (ix qs b.toNat) with I:=v24 }) Z dn (fun _ _=>(kcb (by rw[←hst]) k0 (kcg (by rw[←hst]) k0 (kck (by rw[←hst]) k0 kn))))
 refine Ba (r:=Ae) (l:=[i]) U58 I67 (by decide) Z Z Z (lA d2 ln) fun g23=>jyn d0 (kc k1 (kc k1 kn)) (jyo Z (js (Yo k4 (by omega) O58 Z Z) (jyn d0 (kc k1 (kc k1 kn)) (jyo Z (jfz k0 (by(try simp)<;>omega) ?_)))))
 have hrF7:=okM.row hok.1 (j:=b.toNat) (by omega)
 refine EX b.toNat k3 (by omega) (jgo k0 fun w8=>Ev U58 I67 (by decide) Z k0 Z Z d0 (by(try simp)<;>omega) fun v24 w9=>jyn d1 (kc k2 (kc k2 kn)) (jy Z (Ha (j:=b.toNat) U47 Z62 hvb Z Z (by omega) (by omega)) (jy Z (jf Hf Z) (jyo Z (EV k0 k0 (by omega) Z58 Z Z Z w9.one (jkn (c:=c+1) ({ m with bs:=List.set m.bs b.toNat { (ix m.bs b.toNat) with Ins:=((ix m.bs b.toNat).Ins)++([i]) } }) (kc k2 (kc k2 (kc k0 kn))) ⟨(okM.setb (d:=1) hok.1 (by dsimp only;rw[List.length_append];simp only[List.length_cons,List.length_nil];omega)),hok.2⟩ fun ms11 hms11 oms11 bms11=>?_))))))
 clear bd0
 refine jyz d0 (jyd (jx (jq (jr (js (jla k3 A67 Z67 Z Z Z) (jcd E66 Z Z Xp (dc d6 dn) kn fun v28 q12 w12=>ja Z (jn (jx (jr (jm Z ?_))))))))))
 refine jm Z (js (Ad Z) (js (jf Je Z) (js (jl k0 O22 Z Z) (jm Z (Ev U22 I3 (by decide) Z k1 Z Z d0 (by(try simp)<;>omega) fun v35 w14=>js (Ad Z) (js (jf Je Z) (jst k1 Z22 Z Z w14.one s5 (jkn (c:=c+2) ({ ms11 with lv:=ms11.lv++(Aw i) }) (kd (kc k0 kn)) ⟨(okM.setlv oms11.1 (by have:=Sx i;simp only[List.length_append];omega) (by omega)),oms11.2⟩ fun ms15 hms15 oms15 bms15=>?_))))))))
 clear bms11
 refine jn ?_
 have hst:ms15=Ca b i m:=(by(try simp only[hms11,hms15]);all_goals first|rfl|(simp[Ca];done)|(simp[Ca];rfl)|(unfold Ca;(repeat' split)<;>first|rfl|(exfalso;omega)|(simp[] at *;done)|(simp_all;done)))
 exact jd0 Z (v35,List.set qs b.toNat { (ix qs b.toNat) with I:=v24 }) Z dn (fun _ _=>(kcb (by rw[←hst]) k0 (kcg (by rw[←hst]) k0 (kck (by rw[←hst]) k0 kn))))
theorem Gj:Ent Tryz.prog 120:=⟨_,Tryz.func120,by kernel_rfl,by kernel_rfl⟩
theorem t6:Ent Tryz.prog 171:=⟨_,Tryz.func171,by kernel_rfl,by kernel_rfl⟩
theorem E64:Ent Tryz.prog 64:=⟨_,Tryz.func64,by kernel_rfl,by kernel_rfl⟩
theorem E70:Ent Tryz.prog 70:=⟨_,Tryz.func70,by kernel_rfl,by kernel_rfl⟩
theorem E71:Ent Tryz.prog 71:=⟨_,Tryz.func71,by kernel_rfl,by kernel_rfl⟩
theorem Oq{vs vb al:Value}{m:Mk}{nb c:Nat}{S:List Int}{g0:Nat}{B0 B1:Nat}{qs:List BV}(hok:okS nb c S m)(hc:c≤980000)(b:Int)(n:Int)(hb9:0≤b∧b<nb)(ww2:IntKind.i32.wrap n=n):KB Tryz.prog 70 [.int .i64 b,.int .i32 n] [] g0 vs vb al S B0 B1 qs [wf .i64 m.nx] m (Bk b n m) (.int .i64 m.nx):=by
 refine Af (args:=[.pointer (some ⟨g0,0,none⟩),.int .i64 b,.int .i32 n]) Tryz.func70 rfl rfl rfl fun w0 X=>?_
 refine cgo k1 fun w1=>?_
 have bd0:=okM.bnd hok.1
 refine cbk k2 (okM.bnd hok.1).2.2.2.2.2.2.2.1 fun hvb=>?_
 have hbn:b.toNat<nb:=by omega
 refine jq (jr (ja Z (jn (jx (jq (jr (jm Z (jkr E64 Z Z (Gn hok (by omega)) (dc d0 dn) (kd (kc k0 kn)) ⟨Dw hok.1,hok.2⟩ fun m9 hm9 om9 bm9=>?_))))))))
 have w9_0:IntKind.i64.wrap (m.nx)=m.nx:=(IntWalk.i64_in _ (by omega))
 clear bd0
 refine ja Z (jn (jx (jq (jr (jm Z (jm Z (jm Z (jm Z (js (jbu (v := .agg #[.int .i64 1,.int .i64 m.nx,.int .i64 0,.slice none 0 0,.int .i32 n]) Z (fun _=>by kernel_rfl)) (jkb Gj Z Z (Gf (i:=⟨1,m.nx,0,[],n⟩) om9 (by omega) b hb9) (dc d0 (dc (Ae.M (m:=⟨1,m.nx,0,[],n⟩) (c:=(.slice none 0 0)) wN (wl 1) (wp w9_0) (wl 0) (wp ww2)) dn)) (kd (kc k0 kn)) ⟨Dx om9.1 hbn,(Fd.trans om9.2)⟩ p0 fun m15 hm15 om15 bm15 ua15 qs15 w2=>?_))))))))))
 clear bm9
 refine jn (jx (jq (jr (jm Z (ja Z (jn (jx (jrt ?_))))))))
 have hv0:m.nx=m.nx:=(by(try simp only[hm9,hm15]);all_goals first|rfl|(simp[Bk];done)|(simp[Bk];rfl)|(unfold Bk;(repeat' split)<;>first|rfl|(exfalso;omega)|(simp[] at *;done)|(simp_all;done)))
 have hst:m15=Bk b n m:=(by(try simp only[hm9,hm15]);all_goals first|rfl|(simp[Bk];done)|(simp[Bk];rfl)|(unfold Bk;(repeat' split)<;>first|rfl|(exfalso;omega)|(simp[] at *;done)|(simp_all;done)))
 exact jr1 Z Z (ua15,qs15) (by rw[hv0]<;>rfl) (dc (wca hv0 (wp w9_0)) dn) (fun _ _=>(kcb (by rw[←hst]) k0 (kcg (by rw[←hst]) k0 (kck (by rw[←hst]) k0 kn))))
theorem Io{vs vb al:Value}{m:Mk}{nb c:Nat}{S:List Int}{g0:Nat}{B0 B1:Nat}{qs:List BV}(hok:okS nb c S m)(hc:c≤970000)(b:Int)(hb9:0≤b∧b<nb):KB Tryz.prog 119 [.int .i64 b] [] g0 vs vb al S B0 B1 qs [wf .i64 (sV9 m)] m (sS9 b m) (.int .i64 (sV9 m)):=by
 refine Af (args:=[.pointer (some ⟨g0,0,none⟩),.int .i64 b]) Tryz.func119 rfl rfl rfl fun w0 X=>?_
 refine cgo k1 fun w1=>?_
 have bd0:=okM.bnd hok.1
 refine cbk k2 (okM.bnd hok.1).2.2.2.2.2.2.2.1 fun hvb=>?_
 have hbn:b.toNat<nb:=by omega
 refine jq (jr (ja Z (jn (jx (jq (jr (jm Z (jkb t6 Z Z (SQ hok (by omega)) (dc d0 dn) (kd (kc k0 kn)) ⟨C4 hok.1,(T7.trans hok.2)⟩ p1 fun m9 hm9 om9 bm9 ua9 qs9 w2=>?_))))))))
 clear bd0
 refine jm Z (js (Be Z Z) (js (Be Z Z) (ja Z (ja Z (jn (jx (jq (jq (jr (jm Z (js (Dv Z) ?_)))))))))))
 refine jm Z (jg Z Z (.f _) (fun hg=>jmv Z) (jkg Z Z (.f _) E47 Z (fun hg=>Pw (evg Z hg) Z) (Du om9 (by omega) 9 (by first|exact hb9|decide|omega)) (dc d1 dn) (kd (kc k0 kn)) (by split;exact⟨tO9 om9.1,om9.2⟩;exact om9.mono (by omega)) fun m16 hm16 om16 bm16=>?_))
 have w16_0:IntKind.i64.wrap (tVV 9 m9)=tVV 9 m9:=(IntWalk.i64_in _ (by have h9:=@tV9 9 (by omega) m9;omega))
 have tr16:=@tV9 9 (by omega) m9
 clear bm9
 refine jg Z Z (.f _) (fun hg=>Aj (evg Z hg) Z) (js (jor Z Z) (jn (jx ?_)))
 refine jif Z (fun hc1=>?_) (fun hc1=>?_)
 refine jq (jr (jm Z (jm Z (jm Z (jkr E71 Z Z (Pq om16 (by omega)) (dc d1 dn) (kd (kc k0 kn)) ⟨Lj om16.1,om16.2⟩ fun m22 hm22 om22 bm22=>?_)))))
 have w22_0:IntKind.i32.wrap (Ar m16)=Ar m16:=(Pg m16)
 clear bm16
 refine jkb E70 Z Z (Oq om22 (by omega) b (Ar m16) (by first|exact hb9|decide|omega) w22_0) (dc d1 dn) (kd (kc k0 kn)) ⟨Hc om22.1 hbn,(Mc.trans om22.2)⟩ p1 fun m23 hm23 om23 bm23 ua23 qs23 w4=>?_
 clear bm22
 refine ja Z (jn (jx (jrt (jtr ?_))))
 have hv0:sV9 m=m22.nx:=(by(try simp only[hm9,hm16,hm22,hm23] at hc1);(try simp only[hm9,hm16,hm22,hm23]);all_goals first|rfl|(simp[sS9,sV9,Hx,Dj,hc1];done)|(simp[sS9,sV9,Hx,Dj,hc1];rfl)|(unfold sS9 sV9 Hx Dj;(repeat' split)<;>first|rfl|(exfalso;omega)|(simp[hc1] at *;done)|(simp_all;done)))
 have hst:m23=sS9 b m:=(by(try simp only[hm9,hm16,hm22,hm23] at hc1);(try simp only[hm9,hm16,hm22,hm23]);all_goals first|rfl|(simp[sS9,sV9,Hx,Dj,hc1];done)|(simp[sS9,sV9,Hx,Dj,hc1];rfl)|(unfold sS9 sV9 Hx Dj;(repeat' split)<;>first|rfl|(exfalso;omega)|(simp[hc1] at *;done)|(simp_all;done)))
 exact jr1 Z Z (ua23,qs23) (by rw[hv0]<;>rfl) (dc (wca hv0 ((wfw d0))) dn) (fun _ _=>(kcb (by rw[←hst]) k0 (kcg (by rw[←hst]) k0 (kck (by rw[←hst]) k0 kn))))
 refine jsk (jx (jq (jr (jm Z (ja Z (jn (jx (jrt ?_))))))))
 have hv0:sV9 m=(Ew m):=(by(try simp only[hm9,hm16] at hc1);(try simp only[hm9,hm16]);all_goals first|rfl|(simp[sS9,sV9,Hx,Dj,hc1];done)|(simp[sS9,sV9,Hx,Dj,hc1];rfl)|(unfold sS9 sV9 Hx Dj;(repeat' split)<;>first|rfl|(exfalso;omega)|(simp[hc1] at *;done)|(simp_all;done)))
 have hst:m16=sS9 b m:=(by(try simp only[hm9,hm16] at hc1);(try simp only[hm9,hm16]);all_goals first|rfl|(simp[sS9,sV9,Hx,Dj,hc1];done)|(simp[sS9,sV9,Hx,Dj,hc1];rfl)|(unfold sS9 sV9 Hx Dj;(repeat' split)<;>first|rfl|(exfalso;omega)|(simp[hc1] at *;done)|(simp_all;done)))
 exact jr1 Z Z (ua9,qs9) (by rw[hv0]<;>rfl) (dc (wca hv0 ((wfw d0))) dn) (fun _ _=>(kcb (by rw[←hst]) k0 (kcg (by rw[←hst]) k0 (kck (by rw[←hst]) k0 kn))))
def Bp(b:Int)(m:Mk):Int×Mk :=
 let m1:=Bk b (IntKind.i32.wrap (tVV 9 m)) (tSS m)
 let m2:=tSS m1
 if tVV 3 m1=0 then
  let m3:=sS9 b m2
  let m4:=Bk b 7 m3
  let m6:=Ca b ⟨5,m4.nx,0,[sV9 m2,m3.nx],0⟩ (Aq m4)
  (m6.nx,Ca b ⟨2,m6.nx,0,[(tSS m).nx,m4.nx],0⟩ (Aq m6))
 else ((tSS m).nx,m2)
def mem2(m:Mk):Int×Mk :=
 let m2:=tSS (tSS m)
 if tVV 12 (tSS m)=0 then (Ar m2,Cb m2) else (IntKind.i32.wrap (tVV 4 m),m2)
def Cd(b:Int)(st:Bool)(m:Mk):Mk :=
 let a:=Bp b m
 let i:=mem2 a.2
 if st then Ca b ⟨16,0,0,[a.1,sV9 i.2],i.1⟩ (sS9 b i.2) else Ca b ⟨15,i.2.nx,0,[a.1],i.1⟩ (Aq i.2)
def Em(b:Int):Nat→List Int→Mk→List Int×Mk
 | 0,l,m=>(l,m)
 | n+1,l,m=>Em b n (l++[sV9 m]) (sS9 b m)
def Ce(b:Int)(m:Mk):Mk :=
 let k:=tVV 20 m
 let m1:=tSS m
 let m2:=sS9 b m1
 let m3:=sS9 b m2
 if k<12 then
  if tVV 3 m3=0 then
   let m4:=Bk b (IntKind.i32.wrap (tVV 40 (tSS m3)-8)) (tSS (tSS m3))
   Ca b ⟨ix [2,2,3,4,5,6,7,8,9,10,12,11] k.toNat,m4.nx,0,[sV9 m1,(tSS (tSS m3)).nx],0⟩ (Aq m4)
  else Ca b ⟨ix [2,2,3,4,5,6,7,8,9,10,12,11] k.toNat,(tSS m3).nx,0,[sV9 m1,sV9 m2],0⟩ (Aq (tSS m3))
 else if k=12 then Ca b ⟨13,m3.nx,0,[sV9 m1,sV9 m2],0⟩ (Aq m3)
 else if k=13 then
  let m4:=Bk b (IntKind.i32.wrap (tVV 12 m2)) (tSS m2)
  if 0<tVV 3 m4 then
   let m5:=Bk b (IntKind.i32.wrap (1+IntKind.i32.wrap (tVV 12 (tSS m4)))) (tSS (tSS m4))
   Ca b ⟨14,m5.nx,0,[sV9 m1,(tSS (tSS m4)).nx],0⟩ (Aq m5)
  else Ca b ⟨14,(tSS m4).nx,0,[sV9 m1,(tSS m2).nx],0⟩ (Aq (tSS m4))
 else if k<16 then Cd b (decide (k=15)) m1
 else if k=16 then
  let r:=Em b (tVV 5 m1).toNat [] (tSS m1)
  Ca b ⟨17,r.2.nx,0,r.1,IntKind.i32.wrap (tVV 5 (Aq r.2))⟩ (tSS (Aq r.2))
 else if k=17 then Ca b ⟨18,m3.nx,(Aq m3).nx,[sV9 m1,sV9 m2],0⟩ (Aq (Aq m3))
 else Bk b (Ar m1) (Cb m1)
def setT(b:Int)(t:D.Term)(m:Mk):Mk:={ m with bs:=m.bs.set b.toNat { (ix m.bs b.toNat) with Term:=t } }
def Co(b:Int)(l:List Int)(m:Mk):Mk :=
 if l.length=0 then
  if tVV 8 m=0 then setT b ⟨5,[],[],IntKind.i32.wrap (tVV 200 (tSS m))⟩ (tSS (tSS m))
  else if tVV 8 m>1 then setT b ⟨4,[sV9 (tSS m)],[],0⟩ (sS9 b (tSS m))
  else setT b ⟨4,[],[],0⟩ (tSS m)
 else if l.length=1 then setT b ⟨1,[],l,0⟩ m
 else if l.length=2 then
  let m1:=sS9 b m
  let m2:=tSS m1
  if tVV 2 m1=0 then
   let m3:=sS9 b m2
   let m4:=Aq m3
   setT b ⟨2,[m3.nx],l,0⟩ (Ca b ⟨ix [11,12,13] (tVV 3 m4).toNat,m3.nx,0,[sV9 m,sV9 m2],0⟩ (tSS m4))
  else setT b ⟨2,[sV9 m],l,0⟩ m2
 else
  let m1:=sS9 b m
  let m2:=Bk b 7 m1
  setT b ⟨3,[m2.nx],l,0⟩ (Ca b ⟨5,m2.nx,0,[sV9 m,m1.nx],0⟩ (Aq m2))
section
variable{nb c:Nat}{m:Mk}{b:Int}
theorem DR(h:okM nb c m)(hb:b.toNat<nb):okM nb (c+22) (Bp b m).2:=by
 unfold Bp;dsimp only;split
 ·exact(Dx (Dw (Dx (Dw (Hc (Dy (tO9 (Hc (tO9 h) hb)) hb) hb)) hb)) hb).mono (by omega)
 ·exact(tO9 (Hc (tO9 h) hb)).mono (by omega)
theorem DP(h:okM nb c m):okM nb (c+4) (mem2 m).2:=by
 unfold mem2;dsimp only;split
 ·exact(Lj (tO9 (tO9 h))).mono (by omega)
 ·exact(tO9 (tO9 h)).mono (by omega)
theorem DM{st:Bool}(h:okM nb c m)(hb:b.toNat<nb):okM nb (c+40) (Cd b st m):=by
 unfold Cd;dsimp only;split
 ·exact(Dx (Dy (DP (DR h hb)) hb) hb).mono (by omega)
 ·exact(Dx (Dw (DP (DR h hb))) hb).mono (by omega)
theorem HV(hb:b.toNat<nb):∀(n:Nat) (l:List Int) {c:Nat} {m:Mk},okM nb c m→okM nb (c+8*n) (Em b n l m).2
 | 0,_,_,_,h=>h
 | n+1,l,_,m,h=>by have:=HV hb n (l++[sV9 m]) (Dy (b:=b) h hb);exact this.mono (by omega)
theorem HW:∀(n:Nat) (l:List Int) (m:Mk),(Em b n l m).1.length=l.length+n
 | 0,_,_=>rfl
 | n+1,l,m=>by rw[Em,HW n];simp;omega
theorem FC(h:okM nb c m)(hb:b.toNat<nb):okM nb (c+60) (Ce b m):=by
 unfold Ce;dsimp only
 repeat' split
 ·exact(Dx (Dw (Hc (tO9 (tO9 (Dy (Dy (tO9 h) hb) hb))) hb)) hb).mono (by omega)
 ·exact(Dx (Dw (tO9 (Dy (Dy (tO9 h) hb) hb))) hb).mono (by omega)
 ·exact(Dx (Dw (Dy (Dy (tO9 h) hb) hb)) hb).mono (by omega)
 ·exact(Dx (Dw (Hc (tO9 (tO9 (Hc (tO9 (Dy (tO9 h) hb)) hb))) hb)) hb).mono (by omega)
 ·exact(Dx (Dw (tO9 (Hc (tO9 (Dy (tO9 h) hb)) hb))) hb).mono (by omega)
 ·exact(DM (tO9 h) hb).mono (by omega)
 ·have h9:=tV9 (n:=5) (by omega) (tSS m)
  exact(Dx (tO9 (Dw (HV hb _ [] (tO9 (tO9 h))))) hb).mono (by omega)
 ·exact(Dx (Dw (Dw (Dy (Dy (tO9 h) hb) hb))) hb).mono (by omega)
 ·exact(Hc (Lj (tO9 h)) hb).mono (by omega)
theorem Qj{t:D.Term}(h:okM nb c m)(hb:b.toNat<nb):okM nb c (setT b t m):=h.setb (d:=0) (Nat.le_refl _)
theorem GI{l:List Int}(h:okM nb c m)(hb:b.toNat<nb):okM nb (c+40) (Co b l m):=by
 unfold Co;dsimp only
 repeat' split
 ·exact(Qj (tO9 (tO9 h)) hb).mono (by omega)
 ·exact(Qj (Dy (tO9 h) hb) hb).mono (by omega)
 ·exact(Qj (tO9 h) hb).mono (by omega)
 ·exact(Qj h hb).mono (by omega)
 ·exact(Qj (Dx (tO9 (Dw (Dy (tO9 (Dy h hb)) hb))) hb) hb).mono (by omega)
 ·exact(Qj (tO9 (Dy h hb)) hb).mono (by omega)
 ·exact(Qj (Dx (Dw (Hc (Dy h hb) hb)) hb) hb).mono (by omega)
theorem SD:(Bp b m).2.s=m.s:=by unfold Bp;dsimp only;split<;>simp only[Fd,Ge,Mc,Aq,tSS]
theorem SA:(mem2 m).2.s=m.s:=by unfold mem2;dsimp only;split<;>rfl
theorem DN{st:Bool}:(Cd b st m).s=m.s:=by unfold Cd;dsimp only;split<;>simp only[Fd,Ge,Aq,SA,SD]
theorem HY:∀(n:Nat) (l:List Int) (m:Mk),(Em b n l m).2.s=m.s
 | 0,_,_=>rfl
 | n+1,l,m=>by rw[Em,HY n,Ge]
theorem WD:(Ce b m).s=m.s:=by unfold Ce;dsimp only;(repeat' split)<;>simp only[Fd,Ge,Mc,Aq,tSS,DN,HY,Cb]
theorem YF{l:List Int}:(Co b l m).s=m.s:=by unfold Co;dsimp only;(repeat' split)<;>simp only[setT,Fd,Ge,Mc,Aq,tSS]
end
end Go.Proofs.YtmfkkodnghambaaGreat
