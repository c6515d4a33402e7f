/- Lemmas that the claim is made of. Conditions: each lemma names its own. -/
import Derived.Test.YtmfkkodnghambaaKH6
import Derived.Recover
import Derived.Test.YtmfkkodnghambaaKH5
import Derived.Test.YtmfkkodnghambaaKH3
set_option linter.unusedSectionVars false
set_option linter.unusedSimpArgs false
set_option linter.unusedVariables false
namespace Go.JE
variable {P : Program} {n : Fs} {w0 : World} {Q : Exit → Act → World → Prop} {e : Env} {H : Heap}
theorem resolve_fn {ρ : Operand → Value} {x : Operand} {t : TypeId} {f : FuncId} {lb : Array Value} (h : ρ x = .func (.func f) #[] lb) (w : World) : (resolve ρ { callee := .value x,args := #[],argTypes := #[] } t).run P w = .ok { target := .fn (.func f) lb,args := #[] } w := by
 simp [resolve,h,Deferred.ofValue]
theorem LF.dfr {ops : Array Oper} {x : Operand} {ty : TypeId} {pos : String} {af : Array Edge} {rest : List Oper} {f : FuncId} {lb : Array Value} (hx : ev e x = some (.func (.func f) #[] lb))
   (K : LF P ⟨n.sz,{ target := .fn (.func f) lb,args := #[] } :: n.ds⟩ w0 ops Q e rest H) : LF P n w0 ops Q e (⟨none,.defer { callee := .value x,args := #[],argTypes := #[] },ty,pos,af,none⟩ :: rest) H := by
 intro a w hf hw
 refine wpList_plain rfl fun K' hK' => ?_
 unfold Oper.wp
 have hr : (execOp a.eval ⟨none,.defer { callee := .value x,args := #[],argTypes := #[] },ty,pos,af,none⟩).run P w = .ok (.defer { target := .fn (.func f) lb,args := #[] }) w := by
   simp [execOp,resolve_fn (hf.ev hx)]
 rw [hr]
 exact hK' _ _ (K _ _ ⟨hf.size,by show _ :: a.defers = _; rw [hf.defers],hf.get⟩ hw)
theorem invoke_fn {f : FuncId} {lb : Array Value} (hE : Ent P f) (w : World) : (invoke (.fn (.func f) lb) #[]).run P w = .ok (.enter f lb) w := by
 simp only [invoke]
 rw [show (#[] ++ lb : Array Value) = lb by simp]
 exact hE.run lb w
theorem OpOk.eqlIf {T T' : TypeId} {x : Operand} (hT : P.underlying T = some (.interface #[])) (hx : ev e x = some .nilIface) : OpOk P e (.binOp .eql T x (.const .nilIface) T') H (.bool true) := by
 intro ρ o w ho hev _
 have h1 : ∀ d,(Op.equalIn (d + 1) T .nilIface .nilIface).run P w = .ok true w := fun d => by
   simp only [Op.equalIn,Sem.run_bind,run_underlying hT,Result.andThen_ok]; rfl
 have h2 : (Op.equal T .nilIface .nilIface).run P w = .ok true w := h1 9999
 have h3 : ∀ d,(Op.eqGuardIn (d + 1) T .nilIface .nilIface).run P w = .ok false w := fun d => by
   simp only [Op.eqGuardIn,Sem.run_bind,run_underlying hT,Result.andThen_ok]; rfl
 have hy : ρ (.const .nilIface) = .nilIface := hev _ _ rfl
 simp only [execOp,ho,hev _ _ hx,hy,eqGuard,binOp]
 simp [h2,h3]
theorem callsD_quiet {f : FuncId} {fn : Func} {args : List Value} {id d m : Nat} {ty : TypeId} {pos : String} {af : Array Edge} {c : Code} {R : Value → Heap → Prop} {w : World} (hf : P.funcs[f]? = some fn)
   (hb : fn.body = some (.seq (.region id #[⟨some d,.call { callee := .builtin .recover,args := #[],argTypes := #[] },ty,pos,af,none⟩] false) c)) (hn : fn.ntmps = m) (ha : Nat.ble args.length m = true) (hd : Nat.blt d m = true)
   (h : CF P ⟨m,[]⟩ w (BQ P fn w R) ((d,.nilIface) :: number 0 args) c w.heap) :
   CallsD P f args.toArray .returning w fun x u' w' => u' = .returning ∧ ∃ v,x = .returned v ∧ w'.os = w.os ∧ w'.tape = w.tape ∧ w'.output = w.output ∧ R v w'.heap := by
 refine callsD_of_wpS hf hb fun c₀ cs hu => wpS_seq (wpS_region ?_)
 have hl : List.range (#[(⟨some d,.call { callee := .builtin .recover,args := #[],argTypes := #[] },ty,pos,af,none⟩ : Oper)]).size = [0] := rfl
 rw [hl]
 have ha' : args.length ≤ m := by simpa [Nat.ble_eq] using ha
 have hfr : Fr ⟨m,[]⟩ (number 0 args) { tmps := args.toArray ++ Array.replicate (fn.ntmps - args.toArray.size) undef,defers := [] } := by
   refine ⟨by simp [hn]; omega,rfl,fun t v hv => ?_⟩
   obtain ⟨i,h1,h2⟩ := lk_number args 0 t v hv
   have hi : i < args.length := (List.getElem?_eq_some_iff.1 h2).1
   have e1 : t = i := by omega
   subst e1
   simp only [Array.getD_eq_getD_getElem?]
   rw [Array.getElem?_append_left (by simpa using hi)]
   simp [h2]
 have hrun : ∀ ρ,(execOp ρ (⟨some d,.call { callee := .builtin .recover,args := #[],argTypes := #[] },ty,pos,af,none⟩ : Oper)).run P w = .ok .recover w := fun ρ => by
   simp [execOp,resolve,invoke,builtin]
 have hrec : recoverD (c₀ :: cs) = none := by simp [recoverD,hu]
 simp only [wpOpsS,List.getElem?_toArray,List.getElem?_cons_zero,Region.wanted,if_true,hrun,hrec]
 have h2 := h _ _ (hfr.put hd .nilIface) ⟨rfl,rfl,rfl,rfl⟩
 refine wpS_of_wp (Code.wp_mono ?_ h2)
 intro x a' w' hq
 cases x with
 | normal => obtain ⟨h1,v,h3,h4⟩ := hq; exact ⟨h1,.returning,by rw [← hu],v,h3,rfl,v,rfl,by obtain ⟨_,e,h5⟩ := h4; injection e with e; subst e; exact h5⟩
 | ret => obtain ⟨h1,v,h3,h4⟩ := hq; exact ⟨h1,.returning,by rw [← hu],v,h3,rfl,v,rfl,by obtain ⟨_,e,h5⟩ := h4; injection e with e; subst e; exact h5⟩
 | panic ch => obtain ⟨_,_,e,_⟩ := hq; cases e
 | exit i => exact hq
 | goto l => exact hq
 | outgrown => obtain ⟨_,e,_⟩ := hq; cases e
def BQD (P : Program) (fn : Func) (w0 : World) (R : Value → Heap → Prop) : Exit → Act → World → Prop :=
 bodyPostD P fn fun x w' => ∃ v,x = .returned v ∧ w'.os = w0.os ∧ w'.tape = w0.tape ∧ w'.output = w0.output ∧ R v w'.heap
theorem Ct.enterD {f : FuncId} {fn : Func} {c : Code} {args : List Value} {m : Nat} {R : Value → Heap → Prop} (hf : P.funcs[f]? = some fn) (hb : fn.body = some c) (hn : fn.ntmps = m) (ha : Nat.ble args.length m = true)
   (h : ∀ w0 : World,w0.heap = H → CF P ⟨m,[]⟩ w0 (BQD P fn w0 R) (number 0 args) c H) : Ct P f args.toArray H R := by
 intro w hw
 refine calls_of_wp_defers hf hb ?_
 have ha' : args.length ≤ m := by simpa [Nat.ble_eq] using ha
 refine h w hw _ w ⟨by simp [hn]; omega,rfl,fun t v hv => ?_⟩ ⟨hw,rfl,rfl,rfl⟩
 obtain ⟨i,h1,h2⟩ := lk_number args 0 t v hv
 have hi : i < args.length := (List.getElem?_eq_some_iff.1 h2).1
 have e1 : t = i := by omega
 subst e1
 simp only [Array.getD_eq_getD_getElem?]
 rw [Array.getElem?_append_left (by simpa using hi)]
 simp [h2]
theorem results_cell3 {fn : Func} {p q r g g' g'' : Nat} {ty ty' ty'' : TypeId} {v v' v'' : Value} (h : fn.results = #[.cell p ty,.cell q ty',.cell r ty'']) (tmps : Array Value) (w : World) (hp : tmps.getD p undef = .pointer (some ⟨g,0,none⟩)) (hO : One P ty) (hc : w.cell? ⟨g,0,none⟩ = some v)
   (hp' : tmps.getD q undef = .pointer (some ⟨g',0,none⟩)) (hO' : One P ty') (hc' : w.cell? ⟨g',0,none⟩ = some v') (hp'' : tmps.getD r undef = .pointer (some ⟨g'',0,none⟩)) (hO'' : One P ty'') (hc'' : w.cell? ⟨g'',0,none⟩ = some v'') :
   (results fn tmps).run P w = .ok (.tuple #[v,v',v'']) w := by
 have h1 : tmps[p]?.getD undef = .pointer (some ⟨g,0,none⟩) := by simpa using hp
 have h2 : tmps[q]?.getD undef = .pointer (some ⟨g',0,none⟩) := by simpa using hp'
 have h3 : tmps[r]?.getD undef = .pointer (some ⟨g'',0,none⟩) := by simpa using hp''
 simp [results,h,h1,h2,h3,asAddr,loadVar,hO.run,hO'.run,hO''.run,hc,hc',hc'']
theorem PF.retD {fn : Func} {m f : Nat} {lb : Array Value} {R : Value → Heap → Prop} {v : Value} (hE : Ent P f) (hc : ∀ w : World,w.heap = H → CallsD P f lb .returning w fun x u' w' => u' = .returning ∧ ∃ v',x = .returned v' ∧ w'.os = w.os ∧ w'.tape = w.tape ∧ w'.output = w.output ∧ w'.heap = H)
   (hr : ∀ (a : Act) (w : World),Fr ⟨m,[{ target := .fn (.func f) lb,args := #[] }]⟩ e a → w.heap = H → (results fn a.tmps).run P w = .ok v w) (hR : R v H) : PF ⟨m,[{ target := .fn (.func f) lb,args := #[] }]⟩ w0 (BQD P fn w0 R) e .ret H := by
 intro a w hf hw
 show Leaves P fn a.tmps _ a.defers .returning w
 rw [hf.defers]
 refine leaves_cons (by simp) (invoke_fn hE w) ((hc w hw.heap).mono ?_)
 rintro x u' w' ⟨rfl,v',rfl,h1,h2,h3,h4⟩
 exact ⟨v,hr a w' hf h4,v,rfl,h1.trans hw.os,h2.trans hw.tape,h3.trans hw.output,h4 ▸ hR⟩
section
variable {f : FuncId} {fn : Func} {c : Code} {args : List Value} {D D0 : List Dt} {L L0 M : List Res} {X : Cx} {ι : Type} {val : ι → Value} {dr : ι → List Dt} {lr : Nat → ι → List Res}
def RQD (P : Program) (fn : Func) (w0 : World) (X : Cx) {ι : Type} (val : ι → Value) (dr : ι → List Dt) (lr : Nat → ι → List Res) : Exit → Act → World → Prop := BQD P fn w0 (fun v H' => ∃ i F',v = val i ∧ ∀ B,B ≤ X.n → Hp X (dr i) (lr B i) F' H')
theorem jenterD {m : Nat} (hf : P.funcs[f]? = some fn) (hb : fn.body = some c) (hn : fn.ntmps = m) (ha : Nat.ble args.length m = true)
   (h : ∀ (w0 : World) (X : Cx),CH P ⟨m,[]⟩ w0 (RQD P fn w0 X val dr lr) X D0 L0 (number 0 args) c) : Tr P f args.toArray D0 L0 val dr lr := fun F H hin hd ho =>
 Ct.enterD hf hb hn ha fun w0 hw => h w0 ⟨Own L0,H,F⟩ F H ⟨PH.ext.refl F,hin,Kw.refl _ _,hd,ho,fun k hk => .inr hk⟩
theorem jdf {ops : Array Oper} {x : Operand} {ty : TypeId} {pos : String} {af : Array Edge} {rest : List Oper} {f : FuncId} {lb : Array Value} (hx : ev e x = some (.func (.func f) #[] lb))
   (K : LH P ⟨n.sz,{ target := .fn (.func f) lb,args := #[] } :: n.ds⟩ w0 ops Q X D L e rest) : LH P n w0 ops Q X D L e (⟨none,.defer { callee := .value x,args := #[],argTypes := #[] },ty,pos,af,none⟩ :: rest) := fun F H hp => LF.dfr hx (K F H hp)
theorem jrD3 {m f' : Nat} {lb : Array Value} {p q r g g' g'' : Nat} {ty ty' ty'' T T' T'' : TypeId} {v v' v'' : Value} {N N' N'' : List Res} (hr : fn.results = #[.cell p ty,.cell q ty',.cell r ty'']) (hv : lk e p = some (.pointer (some ⟨g,0,none⟩))) (hv' : lk e q = some (.pointer (some ⟨g',0,none⟩))) (hv'' : lk e r = some (.pointer (some ⟨g'',0,none⟩)))
   (hb : Tk L (bx g T [v]) N) (hO : One P ty) (hb' : Tk L (bx g' T' [v']) N') (hO' : One P ty') (hb'' : Tk L (bx g'' T'' [v'']) N'') (hO'' : One P ty'') (hE : Ent P f')
   (hc : ∀ w : World,CallsD P f' lb .returning w fun x u' w' => u' = .returning ∧ ∃ v',x = .returned v' ∧ w'.os = w.os ∧ w'.tape = w.tape ∧ w'.output = w.output ∧ w'.heap = w.heap)
   (i : ι) (hm : .tuple #[v,v',v''] = val i) (hd : Sd D L (dr i)) (hk : ∀ B,B ≤ X.n → Tks L (lr B i) M) : QH ⟨m,[{ target := .fn (.func f') lb,args := #[] }]⟩ w0 (RQD P fn w0 X val dr lr) X D L e .ret := fun F H hp =>
 PF.retD hE (fun w hw => by have h := hc w; rw [hw] at h; exact h) (fun a w hf hw => results_cell3 hr _ w (hf.get p _ hv) hO (by rw [cell_hc,hw]; exact (hp.at hb).1.hc rfl) (hf.get q _ hv') hO' (by rw [cell_hc,hw]; exact (hp.at hb').1.hc rfl) (hf.get r _ hv'') hO'' (by rw [cell_hc,hw]; exact (hp.at hb'').1.hc rfl)) ⟨i,F,hm,fun B hB => hp.sub hd (hk B hB)⟩
end
end Go.JE
namespace Go.Proofs.Ytmfkkodnghambaa
open Go.JE
abbrev U20 := @Try.underlying20
theorem E45 : Ent Try.prog 45 := ⟨_,Try.func45,by kernel_rfl,by kernel_rfl⟩
theorem E52 : Ent Try.prog 52 := ⟨_,Try.func52,by kernel_rfl,by kernel_rfl⟩
theorem E55 : Ent Try.prog 55 := ⟨_,Try.func55,by kernel_rfl,by kernel_rfl⟩
theorem E56 : Ent Try.prog 56 := ⟨_,Try.func56,by kernel_rfl,by kernel_rfl⟩
theorem O83 : One Try.prog 83 := ⟨_,Try.underlying83,rfl⟩
theorem Z83 : Sz Try.prog 83 1 := by unfold Sz; kernel_rfl
theorem J3 : (Try.prog.info? 3).bind (·.zero) = some (.int .i64 0) := by kernel_rfl
theorem J83 : (Try.prog.info? 83).bind (·.zero) = some (.int .i64 0) := by kernel_rfl
set_option maxRecDepth 4000
theorem recov_ct (g2 g3 g4 : Nat) (w : World) : CallsD Try.prog 52 #[.pointer (some ⟨g2,0,none⟩),.pointer (some ⟨g3,0,none⟩),.pointer (some ⟨g4,0,none⟩)] .returning w fun x u' w' => u' = .returning ∧ ∃ v',x = .returned v' ∧ w'.os = w.os ∧ w'.tape = w.tape ∧ w'.output = w.output ∧ w'.heap = w.heap := by
 refine (callsD_quiet (args := [.pointer (some ⟨g2,0,none⟩),.pointer (some ⟨g3,0,none⟩),.pointer (some ⟨g4,0,none⟩)]) (R := fun _ H' => H' = w.heap) Try.func52 rfl rfl rfl rfl ?_)
 exact CF.block (CF.seq (CF.region (LF.step (OpOk.eqlIf U20 rfl) (LF.nil (PF.next (CF.cond rfl (fun _ => CF.region (LF.step (OpOk.assign rfl) (LF.nil (PF.blockNormal (PF.end0 rfl rfl))))) (fun h => by cases h)))))))
set_option maxHeartbeats 1000000 in
theorem kFunc_ct {a0 : Value} {f : D.Func} (hG : GoodF f) : Tv Try.prog 45 #[vFunc f a0] [da rFunc (vFunc f a0) f] [] (.tuple #[.int .i64 0,.int .i64 0,.int .i64 0]) := by
 refine jenterD (args := [vFunc f a0]) Try.func45 rfl rfl rfl fun w0 X => ?_
 have hln := hG.len
 have hpr := hG.par
 refine jq (jr (jbox Z Z fun g1 => jalc J83 Z fun g2 => jalc J3 Z fun g3 => jalc J3 Z fun g4 => jn (jx (jq (jr (js (jmf3 Z Z Z) (jdf Z ?_)))))))
 refine jn (jx (jq (jr (js (jf F30_0 Z) (js (jl k3 O3 Z Z) (jcv E54 Z Z (within_ct f.Params 0 4) dn kn (jc E53 Z Z (must_ct _ 1 0 0 (within_of hpr)) dn kn (fun _ => p0) (fun _ => p0) fun _ => jn (jx (jq (jr ?_))))))))))
 refine js (jf F30_1 Z) (js (jl k3 O28 Z Z) (jdq (rFunc.cB d0) fun q1 w1 => js (jln U28 (rFunc.cB d0) Z) (js (jgtr Z Z) (jc E53 Z Z (must_ct _ 14 0 0 (by simp; omega)) dn kn (fun _ => p0) (fun _ => p0) fun _ => jn (jx (jq (jr (js (jf F30_1 Z) (js (jl k3 O28 Z Z) ?_)))))))))
 refine js (jln U28 (rFunc.cB d0) Z) (ja Z (jn (jx (jq (jq (jr (js (jf F30_1 Z) (js (jl k3 O28 Z Z) (js (jln U28 (rFunc.cB d0) Z) (jm Z (jn ?_)))))))))))
 refine jx (jb ?_)
 refine jlp (u2 fun (k : Nat) (s : Int) => ⟨k ≤ f.Blocks.length ∧ s = ((f.Blocks.length + cntF3 (f.Blocks.take k) : Nat) : Int),[da rFunc (vFunc f a0) f],[bx g4 3 [.int .i64 0],bx g3 3 [.int .i64 0],bx g2 83 [.int .i64 0],bx g1 30 [.int .i64 f.Params,a0]],[(1,.pointer (some ⟨g1,0,none⟩)),(2,.pointer (some ⟨g2,0,none⟩)),(3,.pointer (some ⟨g3,0,none⟩)),(4,.pointer (some ⟨g4,0,none⟩)),(5,.int .i64 s),(23,a0),(24,.int .i64 (↑(List.length f.Blocks))),(25,.int .i64 (↑k))],f.Blocks.length - k⟩) (0,(f.Blocks.length : Int)) ⟨by dsimp only; omega,by dsimp only; simp [cntF3]⟩ (dc d0 dn) (kd (kd kn)) ⟨Z,Z,Z,Z,eqI (by omega),Z,Z,eqI (by omega),trivial⟩ ?_
 rintro ⟨k,s⟩; dsimp only [u2]; rintro ⟨hk,hs⟩
 have hs9 := cntF3_le f.Blocks k
 have hcn := hG.cnt
 refine jq (jr (js (jlss Z Z) (jn (jx (jq ?_)))))
 refine jif Z (fun hc1 => ?_) (fun hc1 => ?_)
 have hb9 := cntF3_nx (bs := f.Blocks) (k := k) (by omega)
 have hb8 := cntF3_le f.Blocks (k + 1)
 refine jsk (jx (jq (jb (jq (jr (js (jix U28 Z52 (rFunc.cB d0) Z Z Z (by omega)) (jA4 sBlock (jlA (dix (rFunc.cB d0) k (by omega)) A52 Z52 Z) fun c28a c28b c28c c28d => jalc J52 Z fun g7 => jdq (rBlock.cP d0) fun q3 w3 => jdq (rBlock.cI d0) fun q4 w4 => jdq (rBlock.c_Term_Args d0) fun q5 w5 => ?_)))))))
 refine jdq (rBlock.c_Term_To d0) fun q6 w6 => jsta k0 Z52 Z Z Z ⟨w3.one,w4.one,Z,w5.one,w6.one,Z,trivial⟩ (saf Z) (jn (jx (jr (jm Z (js (jf F52_0 Z) (js (jl k0 O50 Z Z) (js (jln U50 (rBlock.cP d0) Z) (js (jf F52_1 Z) (js (jl k0 O35 Z Z) (js (jln U35 (rBlock.cI d0) Z) ?_))))))))))
 refine js (jadd Z Z (by omega)) (js (jadd Z Z (by omega)) (ja Z (jn (jbn (jx (jr (js (jadd Z Z (by omega)) (jm Z (jn ?_)))))))))
 exact jag (k + 1,s + ((((List.length ((ix f.Blocks k).Phis) : Nat) : Int)) + (((List.length ((ix f.Blocks k).Ins) : Nat) : Int)))) ⟨by dsimp only; omega,by dsimp only; rw [hs,cntF3_nx (by omega)]; omega⟩ (dc d1 dn) (kc k1 (kc k1 (kc k1 (kc k1 kn)))) ⟨Z,Z,Z,Z,eqI (by omega),Z,Z,eqI (by omega),trivial⟩
 have hsn : s = ((f.Blocks.length + cntF3 f.Blocks : Nat) : Int) := by rw [hs,List.take_of_length_le (by omega)]
 refine jex (jtx (jtx (jbh (jx (jq (jr (js (jf F30_1 Z) (js (jl k3 O28 Z Z) (js (jln U28 (rFunc.cB d0) Z) (js (jleq Z Z) (jm Z ?_)))))))))))
 refine jg Z Z (.t _) (fun hg => jmv Z) (jg Z Z (.t _) (fun hg => jleq (evg Z hg) Z) (js (jand Z Z) (jc E53 Z Z (must_ct _ 2 0 0 (by simp; omega)) dn kn (fun _ => p0) (fun _ => p0) fun _ => jn (jx (jq (jr (js (jla k3 A30 Z30 Z Z Z) (jmm fun g49 => js (jbu (v := .agg #[.int .i64 f.Params,a0,.map (some g49)]) Z (fun _ => by obtain ⟨_,_,_,rfl⟩ := w1; kernel_rfl)) (jbox Z Z fun g51 => ?_)))))))))
 refine ja Z (jn (jx (jq (jr (jm Z (jc E55 Z Z (kShape_ct (f := f) hG rfl) (dc d0 dn) (kd kn) (fun _ => p0) (fun _ => p2) fun _ => jn (jx (jq (jr (jm Z ?_))))))))))
 refine jc E56 Z Z (kUses_ct (f := f) hG rfl) (dc d0 dn) (kd kn) (fun _ => p0) (fun _ => p2) fun _ => jn (jx (jq (jr (jst k4 Z83 Z Z Z s0 (jst k4 Z3 Z Z Z s0 (jst k4 Z3 Z Z Z s0 (jn (jx (jrt ?_)))))))))
 exact jrD3 Z Z Z Z k2 O83 k1 O3 k0 O3 E52 (recov_ct g2 g3 g4) () Z dn (fun _ _ => kn)
theorem kRight_ct {a0 : Value} {f : D.Func} (hG : GoodF f) : Tv Try.prog 22 #[vFunc f a0] [da rFunc (vFunc f a0) f] [] (.bool true) := by
 refine jenter (args := [vFunc f a0]) Try.func22 rfl rfl rfl fun w0 X => ?_
 refine jq (jr (jbox Z Z fun g1 => ja Z (jn (jx (jq (jr (js (jla k0 A30 Z30 Z Z Z) (jcv E45 Z Z (kFunc_ct hG) (dc d0 dn) kn (jm Z (js (jex' Z Z) ?_))))))))))
 refine js (jex' Z Z) (js (jex' Z Z) (ja Z (ja Z (ja Z (jn (jx (jq (jr (jm Z (js (jeql Z Z) (ja Z ?_)))))))))))
 refine jn (jx (jrt ?_))
 exact jrB Z Z (by simp)
end Go.Proofs.Ytmfkkodnghambaa
namespace Go.JE
variable {P : Program} {D D0 : List Dt} {L M Ls L0 : List Res} {e : Env} {X : Cx} {n : Fs} {w0 : World} {Q : Exit → Act → World → Prop}
def VmR (l : List (Int × Value)) (V : Int → Int) : Prop := ∀ k,(lkM l k).getD (.int .i32 0) = .int .i32 (V k)
def vm (g : Nat) (V : Int → Int) : Res where
 sat F H := ((∃ l,Im H g l ∧ VmR l V) ∧ ∀ k,IntKind.i32.wrap (V k) = V k) ∧ F g = none
 own k := k = g
 lt := fun ⟨⟨⟨l,h,_⟩,_⟩,_⟩ e => e ▸ h.lt
 no := fun h e => e ▸ h.2
 st := fun _ _ h1 h2 ⟨⟨⟨l,h,h3⟩,h4⟩,_⟩ => ⟨⟨⟨l,h.of (h2 g rfl),h3⟩,h4⟩,h1 g rfl⟩
def vme (g : Nat) (V : Int → Int) (k : Int) (st : Nat) : Res where
 sat F H := ((∃ l,ImS H g l k st ∧ VmR l V) ∧ ∀ k,IntKind.i32.wrap (V k) = V k) ∧ F g = none
 own k := k = g
 lt := fun ⟨⟨⟨l,h,_⟩,_⟩,_⟩ e => e ▸ h.im.lt
 no := fun h e => e ▸ h.2
 st := fun _ _ h1 h2 ⟨⟨⟨l,h,h3⟩,h4⟩,_⟩ => ⟨⟨⟨l,h.of (h2 g rfl),h3⟩,h4⟩,h1 g rfl⟩
def setV (V : Int → Int) (k v : Int) : Int → Int := fun j => if j = k then v else V j
theorem VmR.up {l : List (Int × Value)} {V : Int → Int} (h : VmR l V) (k v : Int) : VmR (upM l k (.int .i32 v)) (setV V k v) := fun j => by
 rw [upM_lk]; unfold setV
 split
 · rfl
 · exact h j
theorem VmR.ins {l : List (Int × Value)} {V : Int → Int} (h : VmR l V) (k : Int) : VmR (insM l k (.int .i32 0)) V := fun j => by
 have hj := h j
 unfold insM
 split
 · exact hj
 · rename_i hk
   have e : lkM (l ++ [(k,Value.int .i32 0)]) j = (lkM l j).or (lkM [(k,Value.int .i32 0)] j) := by
     unfold lkM; rw [List.find?_append]; cases List.find? (fun p => p.1 == j) l <;> rfl
   rw [e]
   cases h1 : lkM l j with
   | some u => rw [h1] at hj; exact hj
   | none =>
     rw [h1] at hj
     rw [← hj]
     unfold lkM
     simp only [List.find?_cons,List.find?_nil]
     cases k == j <;> rfl
theorem setV_wr {V : Int → Int} (h : ∀ k,IntKind.i32.wrap (V k) = V k) {k v : Int} (hv : IntKind.i32.wrap v = v) : ∀ j,IntKind.i32.wrap (setV V k v j) = setV V k v j := fun j => by
 unfold setV; split
 · exact hv
 · exact h j
def encW (nx : List (Int × Int)) : List (Int × Value) := nx.map (fun p => (p.1,.int .i32 p.2))
def nm (g : Nat) (nx : List (Int × Int)) : Res := im g (encW nx)
def upW : List (Int × Int) → Int → Int → List (Int × Int)
 | [],k,v => [(k,v)]
 | p :: r,k,v => if p.1 == k then (k,v) :: r else p :: upW r k v
theorem enc_up : ∀ (nx : List (Int × Int)) (k v : Int),upM (encW nx) k (.int .i32 v) = encW (upW nx k v)
 | [],k,v => rfl
 | p :: r,k,v => by
   show upM ((p.1,.int .i32 p.2) :: encW r) k (.int .i32 v) = encW (if p.1 == k then (k,v) :: r else p :: upW r k v)
   unfold upM
   split
   · rfl
   · rw [enc_up r k v]; rfl
def mit (r g : Nat) (nx : List (Int × Int)) (vis : List Int) : Res where
 sat F H := (It H r g (encW nx) vis ∧ r ≠ g) ∧ F r = none ∧ F g = none
 own k := k = r ∨ k = g
 lt := fun ⟨⟨h,_⟩,_⟩ e => by
   rcases e with e | e
   · obtain ⟨es,c,seen,_,_,h3,_⟩ := h
     rw [e]; exact (Array.getElem?_eq_some_iff.1 h3).1
   · rw [e]; exact h.im.lt
 no := fun h e => by rcases e with e | e <;> rw [e]; exact h.2.1; exact h.2.2
 st := fun _ _ h1 h2 ⟨⟨h,h3⟩,_⟩ => ⟨⟨h.of (h2 r (.inl rfl)) (h2 g (.inr rfl)),h3⟩,h1 r (.inl rfl),h1 g (.inr rfl)⟩
section
variable {ops : Array Oper} {op : Op} {d : Nat} {ty : TypeId} {pos : String} {af : Array Edge} {rest : List Oper} {T T' K E : TypeId} {x y z : Operand} {g r st : Nat} {V : Int → Int} {k v : Int} {nx : List (Int × Int)} {vis : List Int} {u : Value}
theorem jvn (kk : ∀ g,LH P n w0 ops Q X D (vm g (fun _ => 0) :: L) ((d,.map (some g)) :: e) rest) (hd : Nat.blt d n.sz = true := by rfl) : LH P n w0 ops Q X D L e (⟨some d,.makeMap T none,ty,pos,af,none⟩ :: rest) := fun F H hp =>
 LF.chg OpCh.makeMapB (by rintro _ H' ⟨g,rfl,eg,sg,kg,hb⟩; exact kk g F H' (hp.new (R := vm g (fun _ => 0)) kg ⟨⟨⟨[],hb,fun _ => rfl⟩,fun _ => by show IntKind.i32.wrap 0 = 0; decide⟩,hp.hin.nope (Nat.le_of_eq eg.symm)⟩ (fun k hk => by have : k = g := hk; omega))) hd
theorem jvk (hT : P.underlying T = some (.map K E)) (hK : P.underlying K = some (.int .i64)) (hz : (P.info? E).bind (·.zero) = some (.int .i32 0)) (hm : Tk L (vm g V) M) (hx : ev e x = some (.map (some g))) (hi : ev e z = some (.int .i64 k)) : OH P D L e (.lookup T x z false) (.int .i32 (V k)) := fun F H h1 h2 h => by
 obtain ⟨⟨⟨l,h3,h4⟩,_⟩,_⟩ := (hm.ok h).1
 rw [← h4 k]; exact OpOk.lookup hT hK hz h3 hx hi
theorem Tw.kwv {H H' : Heap} (h : Tw g H H') : Kw (vm g V).own H H' := ⟨Nat.le_of_eq h.1.symm,fun k _ h2 => h.2 k h2⟩
theorem jvu (hT : P.underlying T = some (.map K E)) (hK : P.underlying K = some (.int .i64)) (hm : Tk L (vm g V) M) (hx : ev e x = some (.map (some g))) (hi : ev e z = some (.int .i64 k)) (hy : ev e y = some (.int .i32 v)) (hw : Wr D L .i32 v)
   (kk : LH P n w0 ops Q X D (vm g (setV V k v) :: M) e rest) : LH P n w0 ops Q X D L e (⟨none,.mapUpdate T x z y,ty,pos,af,none⟩ :: rest) := fun F H hp => by
 obtain ⟨⟨⟨l,h3,h4⟩,h5⟩,h6⟩ := hp.at hm
 have h7 := hw F H hp.hin hp.hd hp.ok
 exact LF.chg0 (OpCh.mapUpdate hT hK h3 hx hi hy) (by rintro _ H' ⟨m,t⟩; exact kk F H' (hp.set (R' := vm g (setV V k v)) hm t.kwv ⟨⟨⟨_,m,h4.up k v⟩,setV_wr h5 h7⟩,h6⟩ (fun k h => .inr h)))
theorem jve (hT : P.underlying T = some (.map K E)) (hK : P.underlying K = some (.int .i64)) (hz : (P.info? E).bind (·.zero) = some (.int .i32 0)) (hm : Tk L (vm g V) M) (hx : ev e x = some (.map (some g))) (hi : ev e z = some (.int .i64 k))
   (kk : ∀ (u : Value) (st : Nat),LH P n w0 ops Q X D (vme g V k st :: M) ((d,.tuple #[u,.int .i64 st]) :: e) rest) (hd : Nat.blt d n.sz = true := by rfl) : LH P n w0 ops Q X D L e (⟨some d,.mapEntry T x z,ty,pos,af,none⟩ :: rest) := fun F H hp => by
 obtain ⟨⟨⟨l,h3,h4⟩,h5⟩,h6⟩ := hp.at hm
 exact LF.chg (OpCh.mapEntry hT hK hz h3 hx hi) (by rintro _ H' ⟨st,rfl,m,t⟩; exact kk _ st F H' (hp.set (R' := vme g V k st) hm t.kwv ⟨⟨⟨_,m,h4.ins k⟩,h5⟩,h6⟩ (fun k h => .inr h))) hd
theorem jvs (hm : Tk L (vme g V k st) M) (hx : ev e x = some (.map (some g))) (hi : ev e z = some (.int .i64 st)) (hy : ev e y = some (.int .i32 v)) (hw : Wr D L .i32 v)
   (kk : LH P n w0 ops Q X D (vm g (setV V k v) :: M) e rest) : LH P n w0 ops Q X D L e (⟨none,.entryStore T x z y,ty,pos,af,none⟩ :: rest) := fun F H hp => by
 obtain ⟨⟨⟨l,h3,h4⟩,h5⟩,h6⟩ := hp.at hm
 have h7 := hw F H hp.hin hp.hd hp.ok
 exact LF.chg0 (OpCh.entryStore h3 hx hi hy) (by rintro _ H' ⟨m,t⟩; exact kk F H' (hp.set (R' := vm g (setV V k v)) hm (t.kwv (V := V)) ⟨⟨⟨_,m,h4.up k v⟩,setV_wr h5 h7⟩,h6⟩ (fun k h => .inr h)))
theorem jvw (hm : Tk L (vm g V) M) (kk : (∀ k,IntKind.i32.wrap (V k) = V k) → LH P n w0 ops Q X D L e rest) : LH P n w0 ops Q X D L e rest := fun F H hp => kk (hp.at hm).1.2 F H hp
theorem cvw {c : Code} (hm : Tk L (vm g V) M) (kk : (∀ k,IntKind.i32.wrap (V k) = V k) → CH P n w0 Q X D L e c) : CH P n w0 Q X D L e c := fun F H hp => kk (hp.at hm).1.2 F H hp
theorem jnn (kk : ∀ g,LH P n w0 ops Q X D (nm g [] :: L) ((d,.map (some g)) :: e) rest) (hd : Nat.blt d n.sz = true := by rfl) : LH P n w0 ops Q X D L e (⟨some d,.makeMap T none,ty,pos,af,none⟩ :: rest) := jmm kk hd
theorem jnu (hT : P.underlying T = some (.map K E)) (hK : P.underlying K = some (.int .i64)) (hm : Tk L (nm g nx) M) (hx : ev e x = some (.map (some g))) (hi : ev e z = some (.int .i64 k)) (hy : ev e y = some (.int .i32 v))
   (kk : LH P n w0 ops Q X D (nm g (upW nx k v) :: M) e rest) : LH P n w0 ops Q X D L e (⟨none,.mapUpdate T x z y,ty,pos,af,none⟩ :: rest) := jup hT hK hm hx hi hy (enc_up nx k v) kk
theorem jri (hT : P.underlying T = some (.map K E)) (hm : Tk L (nm g nx) M) (hx : ev e x = some (.map (some g))) (kk : ∀ r,LH P n w0 ops Q X D (mit r g nx [] :: M) ((d,.pointer (some ⟨r,0,none⟩)) :: e) rest) (hd : Nat.blt d n.sz = true := by rfl) : LH P n w0 ops Q X D L e (⟨some d,.range T x,ty,pos,af,none⟩ :: rest) := fun F H hp => by
 obtain ⟨h3,h4⟩ := hp.at hm
 refine LF.chg (OpCh.range hT h3 hx) ?_ hd
 rintro _ H' ⟨rfl,h5,h6,h7⟩
 have hgl := h3.lt
 refine kk H.size F H' (hp.set (R' := mit H.size g nx []) hm ⟨by omega,fun k h1 _ => h7 k h1⟩ ⟨⟨h5,by omega⟩,hp.hin.nope (Nat.le_refl _),h4⟩ (fun k hk => ?_))
 rcases hk with hk | hk
 · exact .inl (by omega)
 · exact .inr hk
theorem jni (hk : Tk L (mit r g nx vis) M) (hx : ev e x = some (.pointer (some ⟨r,0,none⟩)))
   (k1 : (∀ p ∈ nx,p.1 ∈ vis) → LH P n w0 ops Q X D (mit r g nx vis :: M) ((d,.tuple #[.bool false]) :: e) rest)
   (k2 : ∀ k v,(k,v) ∈ nx → k ∉ vis → LH P n w0 ops Q X D (mit r g nx (vis ++ [k]) :: M) ((d,.tuple #[.bool true,.int .i64 k,.int .i32 v]) :: e) rest) (hd : Nat.blt d n.sz = true := by rfl) :
   LH P n w0 ops Q X D L e (⟨some d,.next x false,ty,pos,af,none⟩ :: rest) := fun F H hp => by
 obtain ⟨⟨h1,h2⟩,h3,h4⟩ := hp.at hk
 refine LF.chg (OpCh.next h2 h1 hx) ?_ hd
 rintro _ H' (⟨rfl,h5,rfl⟩ | ⟨k,w,rfl,h5,h6,h7,h8⟩)
 · refine k1 (fun p hp => h5 p.1 ?_) F H' (hp.set (R' := mit r g nx vis) hk (Kw.refl _ _) ⟨⟨h1,h2⟩,h3,h4⟩ (fun k h => .inr h))
   exact List.mem_map.2 ⟨(p.1,.int .i32 p.2),List.mem_map.2 ⟨p,hp,rfl⟩,rfl⟩
 · obtain ⟨p,h9,h10⟩ := List.mem_map.1 h5
   injection h10 with h10 h11
   subst h10; subst h11
   exact k2 p.1 p.2 h9 h6 F H' (hp.set (R' := mit r g nx (vis ++ [p.1])) hk ⟨Nat.le_of_eq h8.1.symm,fun k _ h2 => h8.2 k (fun e => h2 (.inl e))⟩ ⟨⟨h7,h2⟩,h3,h4⟩ (fun k h => .inr h))
theorem jei (hk : Tk L (mit r g nx (vis ++ [k])) M) (hi : (k,v) ∈ nx) (hx : ev e x = some (.pointer (some ⟨r,0,none⟩))) : OH P D L e (.entry x) (.tuple #[.int .i64 k,.int .i32 v]) := fun F H h1 h2 h3 => by
 obtain ⟨⟨h4,_⟩,_⟩ := (hk.ok h3).1
 exact OpOk.entry h4 (List.mem_map.2 ⟨_,hi,rfl⟩) hx
end
end Go.JE
namespace Go.Proofs.Ytmfkkodnghambaa
open Go.JE
def phWl (fr : Int) (V : Int → Int) (l : List D.Phi) (nx : List (Int × Int)) : List (Int × Int) := l.foldl (fun nx p => upW nx p.Dst (V (ix p.In (Int.toNat (idxM p.In (isFrom fr)))).Val)) nx
def lkW (nx : List (Int × Int)) (k : Int) : Option Int := (nx.find? (fun p => p.1 == k)).map (·.2)
def overW (nx : List (Int × Int)) (V : Int → Int) : Int → Int := fun k => (lkW nx k).getD (V k)
def phisV (fr : Int) (l : List D.Phi) (V : Int → Int) : Int → Int := overW (phWl fr V l []) V
theorem phWl_nx {fr : Int} {V : Int → Int} {l : List D.Phi} {nx : List (Int × Int)} {k : Nat} (h : k < l.length) : phWl fr V (l.take (k + 1)) nx = upW (phWl fr V (l.take k) nx) (ix l k).Dst (V (ix (ix l k).In (Int.toNat (idxM (ix l k).In (isFrom fr)))).Val) := by
 unfold phWl; rw [take_ix h,List.foldl_append]; rfl
theorem upW_keys : ∀ (nx : List (Int × Int)) (k v : Int) (j : Int),j ∈ (upW nx k v).map (·.1) ↔ j = k ∨ j ∈ nx.map (·.1)
 | [],k,v,j => by simp [upW]
 | p :: r,k,v,j => by
   unfold upW
   split
   · rename_i h
     have h : p.1 = k := by simpa using h
     simp [h]
   · have := upW_keys r k v j
     simp only [List.map_cons,List.mem_cons,this]
     exact ⟨fun h => h.elim (fun h => .inr (.inl h)) (fun h => h.elim .inl (fun h => .inr (.inr h))),fun h => h.elim (fun h => .inr (.inl h)) (fun h => h.elim .inl (fun h => .inr (.inr h)))⟩
theorem upW_nd : ∀ (nx : List (Int × Int)) (k v : Int),(nx.map (·.1)).Nodup → ((upW nx k v).map (·.1)).Nodup
 | [],k,v,_ => by simp [upW]
 | p :: r,k,v,h => by
   rw [List.map_cons,List.nodup_cons] at h
   unfold upW
   split
   · rename_i h1
     have h1 : p.1 = k := by simpa using h1
     rw [List.map_cons,List.nodup_cons]
     exact ⟨by rw [← h1]; exact h.1,h.2⟩
   · rename_i h1
     have h1 : ¬ p.1 = k := by simpa using h1
     rw [List.map_cons,List.nodup_cons]
     exact ⟨fun h2 => ((upW_keys r k v p.1).1 h2).elim h1 h.1,upW_nd r k v h.2⟩
theorem lkW_mem {nx : List (Int × Int)} (hn : (nx.map (·.1)).Nodup) {k v : Int} (h : (k,v) ∈ nx) : lkW nx k = some v := by
 induction nx with
 | nil => cases h
 | cons p r ih =>
   rw [List.map_cons,List.nodup_cons] at hn
   unfold lkW
   rw [List.find?_cons]
   rcases List.mem_cons.1 h with e | e
   · subst e; simp
   · have h1 : ¬ p.1 = k := fun e1 => hn.1 (by rw [e1]; exact List.mem_map.2 ⟨_,e,rfl⟩)
     rw [show (p.1 == k) = false by simpa using h1]
     exact ih hn.2 e
theorem lkW_no {nx : List (Int × Int)} {k : Int} (h : k ∉ nx.map (·.1)) : lkW nx k = none := by
 unfold lkW
 rw [Option.map_eq_none_iff,List.find?_eq_none]
 intro p hp e
 exact h (List.mem_map.2 ⟨p,hp,by simpa using e⟩)
theorem phWl_nd {fr : Int} {V : Int → Int} : ∀ (l : List D.Phi) (nx : List (Int × Int)),(nx.map (·.1)).Nodup → ((phWl fr V l nx).map (·.1)).Nodup
 | [],nx,h => h
 | p :: l,nx,h => phWl_nd l _ (upW_nd _ _ _ h)
def partW (nx : List (Int × Int)) (vis : List Int) (V : Int → Int) : Int → Int := fun k => if k ∈ vis then (lkW nx k).getD (V k) else V k
theorem partW_nx {nx : List (Int × Int)} {vis : List Int} {V : Int → Int} {k v : Int} (hn : (nx.map (·.1)).Nodup) (h : (k,v) ∈ nx) : setV (partW nx vis V) k v = partW nx (vis ++ [k]) V := by
 funext j
 unfold setV partW
 by_cases e : j = k
 · subst e
   rw [if_pos rfl,if_pos (by simp),lkW_mem hn h]; rfl
 · rw [if_neg e]
   by_cases h2 : j ∈ vis
   · rw [if_pos h2,if_pos (by simp [h2])]
   · rw [if_neg h2,if_neg (by simp [h2,e])]
theorem partW_all {nx : List (Int × Int)} {vis : List Int} {V : Int → Int} (h : ∀ p ∈ nx,p.1 ∈ vis) : partW nx vis V = overW nx V := by
 funext j
 unfold partW overW
 split
 · rfl
 · rename_i h1
   rw [lkW_no (fun h2 => by obtain ⟨p,h3,h4⟩ := List.mem_map.1 h2; exact h1 (by rw [← h4]; exact h p h3))]; rfl
theorem visW_lt {nx : List (Int × Int)} {vis : List Int} {k v : Int} (hn : vis.Nodup) (hs : ∀ y ∈ vis,y ∈ nx.map (·.1)) (h : (k,v) ∈ nx) (hk : k ∉ vis) : vis.length < nx.length := by
 have h1 : (vis ++ [k]).Nodup := List.nodup_append.2 ⟨hn,by simp,fun x hx y hy e => by simp at hy; subst hy; subst e; exact hk hx⟩
 have h2 := sub_len (vis ++ [k]) (nx.map (·.1)) h1 (fun y hy => by
   rcases List.mem_append.1 hy with h3 | h3
   · exact hs y h3
   · simp at h3; subst h3; exact List.mem_map.2 ⟨_,h,rfl⟩)
 rw [List.length_append,List.length_map] at h2
 simp at h2; omega
theorem encW_wr {nx : List (Int × Int)} {fr : Int} {V : Int → Int} (hV : ∀ k,IntKind.i32.wrap (V k) = V k) : ∀ (l : List D.Phi) (nx : List (Int × Int)),(∀ p ∈ nx,IntKind.i32.wrap p.2 = p.2) → ∀ p ∈ phWl fr V l nx,IntKind.i32.wrap p.2 = p.2
 | [],nx,h => h
 | q :: l,nx,h => encW_wr (nx := nx) hV l _ (fun p hp => by
   have : ∀ (nx : List (Int × Int)) (k v : Int),IntKind.i32.wrap v = v → (∀ p ∈ nx,IntKind.i32.wrap p.2 = p.2) → ∀ p ∈ upW nx k v,IntKind.i32.wrap p.2 = p.2 := by
     intro nx k v hv
     induction nx with
     | nil => intro _ p hp; simp [upW] at hp; subst hp; exact hv
     | cons a r ih =>
       intro h p hp
       unfold upW at hp
       split at hp
       · rcases List.mem_cons.1 hp with e | e
         · subst e; exact hv
         · exact h p (by simp [e])
       · rcases List.mem_cons.1 hp with e | e
         · subst e; exact h _ (by simp)
         · exact ih (fun p hp => h p (by simp [hp])) p e
   exact this nx _ _ (hV _) h p hp)
def wT (t : D.Term) (V : Int → Int) : List Int := t.Args.map V ++ [0]
def termB (t : D.Term) (V : Int → Int) : Int :=
 if t.Kind = 1 then ix t.To 0
 else if t.Kind = 2 then (if ix (wT t V) 0 = 0 then ix t.To 1 else ix t.To 0)
 else if t.Kind = 3 then ix t.To (Int.toNat (min (IntKind.u32.wrap (ix (wT t V) 0)) ((t.To.length : Int) - 1)))
 else 0
def termE (t : D.Term) (en : Int) : Int := if t.Kind = 1 ∨ t.Kind = 2 ∨ t.Kind = 3 then en else if t.Kind = 4 then 1 else 2
def termV (t : D.Term) (V : Int → Int) (va : Int) : Int := if t.Kind = 1 ∨ t.Kind = 2 ∨ t.Kind = 3 then va else if t.Kind = 4 then ix (wT t V) 0 else t.Imm
def aI (i : D.Ins) (V : Int → Int) (k : Nat) : Int := ix (i.Args.map V) k
def inzV (i : D.Ins) (V : Int → Int) (me an : List Int) : Int → Int :=
 if i.Op = 1 then setV V i.Dst i.Imm
 else if i.Op = 15 then setV V i.Dst (loadM me (w32 (aI i V 0 + i.Imm))).1
 else if i.Op = 16 then V
 else if i.Op = 17 then (if 0 < an.length then setV (setV V i.Dst 0) i.Dst (ix an 0) else setV V i.Dst 0)
 else if i.Op = 18 then setV (setV V i.Dst (wideM (aI i V 0) (aI i V 1)).1) i.Two (wideM (aI i V 0) (aI i V 1)).2
 else setV V i.Dst (doM i.Op (aI i V 0) (aI i V 1)).1
def inzT (i : D.Ins) (V : Int → Int) (me : List Int) : Int := if i.Op = 15 then (if (loadM me (w32 (aI i V 0 + i.Imm))).2 = true then 0 else -2) else if i.Op = 16 then (if storeOk me (w32 (aI i V 0 + i.Imm)) (aI i V 1) = true then 0 else -2) else if i.Op = 1 ∨ i.Op = 17 ∨ i.Op = 18 then 0 else if (doM i.Op (aI i V 0) (aI i V 1)).2 = true then 0 else -1
def inzE (i : D.Ins) (V : Int → Int) (me : List Int) (en : Int) : Int := if inzT i V me = 0 then en else 2
def inzX (i : D.Ins) (V : Int → Int) (me : List Int) (va : Int) : Int := if inzT i V me = 0 then va else inzT i V me
def inzM (i : D.Ins) (V : Int → Int) (me : List Int) : List Int := if i.Op = 16 then storeM me (w32 (aI i V 0 + i.Imm)) (aI i V 1) else me
def inzC (i : D.Ins) (V : Int → Int) (cl : List D.Event) : List D.Event := if i.Op = 17 then cl ++ [⟨i.Imm,i.Args.map V⟩] else cl
def inzA (i : D.Ins) (an : List Int) : List Int := if i.Op = 17 then an.drop 1 else an
theorem shM_facts {t : D.Term} (h : ∃ s,shM t.Kind = some s ∧ (s.1 ≤ (t.Args.length : Int) ∧ (t.Args.length : Int) ≤ s.2.1) ∧ (s.2.2.1 ≤ (t.To.length : Int) ∧ (t.To.length : Int) ≤ s.2.2.2)) :
   (1 ≤ t.Kind ∧ t.Kind ≤ 5) ∧ (t.Kind = 1 → t.To.length = 1 ∧ t.Args.length = 0) ∧ (t.Kind = 2 → t.To.length = 2 ∧ t.Args.length = 1) ∧ (t.Kind = 3 → (2 ≤ t.To.length ∧ t.To.length ≤ 65) ∧ t.Args.length = 1) ∧ t.Args.length ≤ 1 := by
 obtain ⟨s,h1,h2,h3⟩ := h
 unfold shM at h1
 repeat' split at h1
 all_goals first
   | (injection h1 with h1; subst h1; simp only at h2 h3; refine ⟨by omega,?_,?_,?_,by omega⟩ <;> intro <;> omega)
   | cases h1
theorem u32_nn (n : Int) : 0 ≤ IntKind.u32.wrap n := by rw [IntKind.wrap_u32]; omega
theorem idx_from {l : List D.In} {fr : Int} (h : fr ∈ l.map (fun x => x.From)) : 0 ≤ idxM l (isFrom fr) ∧ idxM l (isFrom fr) < l.length := by
 refine ⟨?_,idx_lt l (isFrom fr)⟩
 unfold idxM
 cases h1 : l.findIdx? (isFrom fr) with
 | some i => exact Int.natCast_nonneg i
 | none =>
   rw [List.findIdx?_eq_none_iff] at h1
   obtain ⟨x,h2,h3⟩ := List.mem_map.1 h
   have := h1 x h2
   unfold isFrom at this
   simp at this
   exact absurd h3 this
theorem vis_nd9 {vis : List Int} {k : Int} (h : vis.Nodup) (hk : k ∉ vis) : (vis ++ [k]).Nodup := List.nodup_append.2 ⟨h,by simp,fun x hx y hy e => by simp at hy; subst hy; subst e; exact hk hx⟩
theorem oper_facts {i : D.Ins} (h : (1 ≤ i.Op ∧ i.Op ≤ 18) ∧ (operM i.Op).1 ≤ (i.Args.length : Int) ∧ (i.Args.length : Int) ≤ (operM i.Op).2) :
   (i.Op = 15 → i.Args.length = 1) ∧ (i.Op ≠ 1 → i.Op ≠ 15 → i.Op ≠ 17 → i.Args.length = 2) ∧ i.Args.length ≤ 4 := by
 obtain ⟨h1,h2,h3⟩ := h
 by_cases e1 : i.Op = 1
 · have e : operM i.Op = (0,0) := by unfold operM; rw [if_pos e1]
   rw [e] at h2 h3; simp only at h2 h3
   exact ⟨fun h => by omega,fun h => absurd e1 h,by omega⟩
 by_cases e2 : i.Op = 15
 · have e : operM i.Op = (1,1) := by unfold operM; rw [if_neg e1,if_pos e2]
   rw [e] at h2 h3; simp only at h2 h3
   exact ⟨fun h => by omega,fun _ h => absurd e2 h,by omega⟩
 by_cases e3 : i.Op = 17
 · have e : operM i.Op = (0,4) := by unfold operM; rw [if_neg e1,if_neg e2,if_pos e3]
   rw [e] at h2 h3; simp only at h2 h3
   exact ⟨fun h => by omega,fun _ _ h => absurd e3 h,by omega⟩
 have e : operM i.Op = (2,2) := by unfold operM; rw [if_neg e1,if_neg e2,if_neg e3]
 rw [e] at h2 h3; simp only at h2 h3
 exact ⟨fun h => absurd h e2,fun _ _ _ => by omega,by omega⟩
def stE (en st ss : Int) : Int := if en = 0 ∧ ss ≤ st then 3 else en
def stV (en va st ss : Int) : Int := if en = 0 ∧ ss ≤ st then 0 else va
def stB (en st ss : Int) : Bool := decide (stE en st ss = 0)
def stS (en st ss : Int) : Int := if stE en st ss = 0 then st + 1 else st
theorem stB_t {en st ss : Int} (h : stB en st ss = true) : en = 0 ∧ st < ss ∧ stE en st ss = 0 ∧ stS en st ss = st + 1 := by
 have h1 : stE en st ss = 0 := by simpa [stB] using h
 unfold stE at h1
 split at h1
 · omega
 · refine ⟨h1,by omega,?_,?_⟩
   · unfold stE; rw [if_neg (by assumption)]; exact h1
   · have e : stE en st ss = 0 := by unfold stE; rw [if_neg (by assumption)]; exact h1
     unfold stS; rw [if_pos e]
theorem stB_f {en st ss : Int} (h : stB en st ss = false) : stE en st ss ≠ 0 ∧ stS en st ss = st := by
 have h1 : stE en st ss ≠ 0 := by simpa [stB] using h
 exact ⟨h1,by unfold stS; rw [if_neg h1]⟩
structure RSt where
 V : Int → Int
 en : Int
 va : Int
 me : List Int
 cl : List D.Event
 st : Int
 an : List Int
def stepF (N : Int) (s : RSt) : RSt := { s with en := stE s.en s.st N,va := stV s.en s.va s.st N,st := stS s.en s.st N }
def stepOk (N : Int) (s : RSt) : Bool := stB s.en s.st N
def insF (i : D.Ins) (s : RSt) : RSt := ⟨inzV i s.V s.me s.an,inzE i s.V s.me s.en,inzX i s.V s.me s.va,inzM i s.V s.me,inzC i s.V s.cl,s.st,inzA i s.an⟩
def lisF (N : Int) : List D.Ins → RSt → RSt × Bool
 | [],s => (s,true)
 | i :: l,s => if stepOk N s = true then lisF N l (insF i (stepF N s)) else (stepF N s,false)
def termF (t : D.Term) (s : RSt) : RSt := { s with en := termE t s.en,va := termV t s.V s.va }
def phisF (fr : Int) (l : List D.Phi) (s : RSt) : RSt := { s with V := phisV fr l s.V }
def blocksF (bs : List D.Block) (N : Int) : Nat → Int → Int → RSt → RSt
 | 0,_,_,s => s
 | k + 1,a,fr,s =>
   if (lisF N (ix bs (Int.toNat a)).Ins (phisF fr (ix bs (Int.toNat a)).Phis s)).2 = true then
     (if stepOk N (lisF N (ix bs (Int.toNat a)).Ins (phisF fr (ix bs (Int.toNat a)).Phis s)).1 = true then
       (if (termF (ix bs (Int.toNat a)).Term (stepF N (lisF N (ix bs (Int.toNat a)).Ins (phisF fr (ix bs (Int.toNat a)).Phis s)).1)).en = 0 then
         blocksF bs N k (termB (ix bs (Int.toNat a)).Term (lisF N (ix bs (Int.toNat a)).Ins (phisF fr (ix bs (Int.toNat a)).Phis s)).1.V) a (termF (ix bs (Int.toNat a)).Term (stepF N (lisF N (ix bs (Int.toNat a)).Ins (phisF fr (ix bs (Int.toNat a)).Phis s)).1))
       else termF (ix bs (Int.toNat a)).Term (stepF N (lisF N (ix bs (Int.toNat a)).Ins (phisF fr (ix bs (Int.toNat a)).Phis s)).1))
     else stepF N (lisF N (ix bs (Int.toNat a)).Ins (phisF fr (ix bs (Int.toNat a)).Phis s)).1)
   else (lisF N (ix bs (Int.toNat a)).Ins (phisF fr (ix bs (Int.toNat a)).Phis s)).1
def outF (s : RSt) : D.Outcome := ⟨s.en,s.va,s.me,s.cl,s.st⟩
def argsV (l : List Int) : Nat → Int → Int
 | 0 => fun _ => 0
 | k + 1 => setV (argsV l k) k (ix l k)
def argsF (f : D.Func) (i : D.Input) : List Int := i.Args.take (Int.toNat (min (i.Args.length : Int) f.Params))
def startF (f : D.Func) (i : D.Input) : RSt := ⟨argsV (argsF f i) (argsF f i).length,0,0,memM i,[],0,i.Answers⟩
def runF (f : D.Func) (i : D.Input) : D.Outcome := outF (blocksF f.Blocks i.Steps (Int.toNat i.Steps + 1) 0 (-1) (startF f i))
section
variable {bs : List D.Block} {N a fr : Int} {k : Nat} {s s' : RSt}
theorem blk_stop (h : lisF N (ix bs (Int.toNat a)).Ins (phisF fr (ix bs (Int.toNat a)).Phis s) = (s',false)) (hk : 0 < k) : blocksF bs N k a fr s = s' := by
 obtain ⟨j,rfl⟩ : ∃ j,k = j + 1 := ⟨k - 1,by omega⟩
 rw [blocksF,h]; simp
theorem blk_step (h : lisF N (ix bs (Int.toNat a)).Ins (phisF fr (ix bs (Int.toNat a)).Phis s) = (s',true)) (h2 : stepOk N s' = false) (hk : 0 < k) : blocksF bs N k a fr s = stepF N s' := by
 obtain ⟨j,rfl⟩ : ∃ j,k = j + 1 := ⟨k - 1,by omega⟩
 rw [blocksF,h]; simp [h2]
theorem blk_end (h : lisF N (ix bs (Int.toNat a)).Ins (phisF fr (ix bs (Int.toNat a)).Phis s) = (s',true)) (h2 : stepOk N s' = true) (h3 : ¬ (termF (ix bs (Int.toNat a)).Term (stepF N s')).en = 0) (hk : 0 < k) : blocksF bs N k a fr s = termF (ix bs (Int.toNat a)).Term (stepF N s') := by
 obtain ⟨j,rfl⟩ : ∃ j,k = j + 1 := ⟨k - 1,by omega⟩
 rw [blocksF,h]; simp [h2,h3]
theorem blk_go (h : lisF N (ix bs (Int.toNat a)).Ins (phisF fr (ix bs (Int.toNat a)).Phis s) = (s',true)) (h2 : stepOk N s' = true) (h3 : (termF (ix bs (Int.toNat a)).Term (stepF N s')).en = 0) (hk : 0 < k) : blocksF bs N k a fr s = blocksF bs N (k - 1) (termB (ix bs (Int.toNat a)).Term s'.V) a (termF (ix bs (Int.toNat a)).Term (stepF N s')) := by
 obtain ⟨j,rfl⟩ : ∃ j,k = j + 1 := ⟨k - 1,by omega⟩
 rw [blocksF,h]; simp [h2,h3]
theorem lis_go {l : List D.Ins} {j : Nat} {R : RSt × Bool} (h : R = lisF N (l.drop j) s) (hj : j < l.length) (h2 : stepOk N s = true) : R = lisF N (l.drop (j + 1)) (insF (ix l j) (stepF N s)) := by
 rw [h,drop_ix hj,lisF,if_pos h2]
theorem lis_stop {l : List D.Ins} {j : Nat} {R : RSt × Bool} (h : R = lisF N (l.drop j) s) (hj : j < l.length) (h2 : stepOk N s = false) : R = (stepF N s,false) := by
 rw [h,drop_ix hj,lisF,if_neg (by rw [h2]; decide)]
theorem lis_end {l : List D.Ins} {j : Nat} {R : RSt × Bool} (h : R = lisF N (l.drop j) s) (hj : l.length ≤ j) : R = (s,true) := by rw [h,List.drop_of_length_le hj,lisF]
end
theorem term_to {t : D.Term} {V : Int → Int} (h : ∃ s,shM t.Kind = some s ∧ (s.1 ≤ (t.Args.length : Int) ∧ (t.Args.length : Int) ≤ s.2.1) ∧ (s.2.2.1 ≤ (t.To.length : Int) ∧ (t.To.length : Int) ≤ s.2.2.2)) {en : Int} (he : termE t en = 0) : termB t V ∈ t.To := by
 obtain ⟨h0,h1,h2,h3,h4⟩ := shM_facts h
 unfold termE at he
 split at he
 · rename_i hk
   unfold termB
   rcases hk with hk | hk | hk
   · have := (h1 hk).1
     rw [if_pos hk]; exact ix_mem (by omega)
   · have := (h2 hk).1
     rw [if_neg (by omega),if_pos hk]
     split
     · exact ix_mem (by omega)
     · exact ix_mem (by omega)
   · have := (h3 hk).1
     have hu := u32_nn (ix (wT t V) 0)
     rw [if_neg (by omega),if_neg (by omega),if_pos hk]
     exact ix_mem (by omega)
 · split at he <;> omega
theorem GoodF.phi_from {f : D.Func} (hG : GoodF f) {b : Nat} (hb : b < f.Blocks.length) {t : Int} (ht : t ∈ (ix f.Blocks b).Term.To) : ∀ p ∈ (ix f.Blocks (Int.toNat t)).Phis,(b : Int) ∈ p.In.map (fun x => x.From) := fun p hp => by
 have h1 := hG.to b hb t ht
 have h2 := hG.fr (Int.toNat t) (by omega) p hp
 rw [h2.2,preds_pr]
 unfold prG
 have hc : ix (cleanM (graphF f)) b = keptM (ix f.Blocks b).Term.To f.Blocks.length := by
   unfold cleanM; rw [ix_mapG (by rw [graph_len]; exact hb),graph_len]
   unfold graphF; rw [ix_mapG hb,kept_kept]
 rw [hc,kept_mem]
 exact ⟨by rw [Int.toNat_of_nonneg (by omega)]; exact ht,by omega⟩
theorem GoodF.phi0 {f : D.Func} (hG : GoodF f) {fr : Int} : ∀ p ∈ (ix f.Blocks (Int.toNat 0)).Phis,fr ∈ p.In.map (fun x => x.From) := fun p hp => by
 have := (hG.fr 0 hG.len.1 p hp).1
 omega
theorem inzM_len (i : D.Ins) (V : Int → Int) (me : List Int) : (inzM i V me).length = me.length := by
 unfold inzM; split
 · exact storeM_len _ _ _
 · rfl
theorem inzC_len (i : D.Ins) (V : Int → Int) (cl : List D.Event) : (inzC i V cl).length ≤ cl.length + 1 := by
 unfold inzC; split
 · simp
 · omega
theorem stE_rng {en st ss : Int} (h : 0 ≤ en ∧ en ≤ 3) : 0 ≤ stE en st ss ∧ stE en st ss ≤ 3 := by unfold stE; split <;> omega
theorem stV_wr {en va st ss : Int} (h : IntKind.i32.wrap va = va) : IntKind.i32.wrap (stV en va st ss) = stV en va st ss := by unfold stV; split; decide; exact h
theorem termE_rng {t : D.Term} {en : Int} (h : 0 ≤ en ∧ en ≤ 3) : 0 ≤ termE t en ∧ termE t en ≤ 3 := by unfold termE; split; exact h; split <;> omega
theorem inzE_rng {i : D.Ins} {V : Int → Int} {me : List Int} {en : Int} (h : 0 ≤ en ∧ en ≤ 3) : 0 ≤ inzE i V me en ∧ inzE i V me en ≤ 3 := by unfold inzE; split; exact h; omega
theorem inzX_wr {i : D.Ins} {V : Int → Int} {me : List Int} {va : Int} (h : IntKind.i32.wrap va = va) : IntKind.i32.wrap (inzX i V me va) = inzX i V me va := by
 unfold inzX; split
 · exact h
 · unfold inzT
   repeat' split
   all_goals decide
theorem wT_wr {t : D.Term} {V : Int → Int} (hV : ∀ k,IntKind.i32.wrap (V k) = V k) : IntKind.i32.wrap (ix (wT t V) 0) = ix (wT t V) 0 := by
 unfold wT
 cases h : t.Args with
 | nil => rfl
 | cons a l => rw [List.map_cons,List.cons_append,ix_zero]; exact hV a
theorem termV_wr {t : D.Term} {V : Int → Int} {va : Int} (h : IntKind.i32.wrap va = va) (hV : ∀ k,IntKind.i32.wrap (V k) = V k) (hi : IntKind.i32.wrap t.Imm = t.Imm) : IntKind.i32.wrap (termV t V va) = termV t V va := by
 unfold termV; split
 · exact h
 · split
   · exact wT_wr hV
   · exact hi
theorem lis_go2 {N : Int} {l : List D.Ins} {j : Nat} {R : RSt × Bool} {V : Int → Int} {en va st : Int} {me an : List Int} {cl : List D.Event} (h : R = lisF N (l.drop j) ⟨V,en,va,me,cl,st,an⟩) (hj : j < l.length) (h2 : stepOk N ⟨V,en,va,me,cl,st,an⟩ = true) :
   R = lisF N (l.drop (j + 1)) ⟨inzV (ix l j) V me an,inzE (ix l j) V me (stE en st N),inzX (ix l j) V me (stV en va st N),inzM (ix l j) V me,inzC (ix l j) V cl,stS en st N,inzA (ix l j) an⟩ := by
 have h3 := lis_go h hj h2
 have e : insF (ix l j) (stepF N ⟨V,en,va,me,cl,st,an⟩) = ⟨inzV (ix l j) V me an,inzE (ix l j) V me (stE en st N),inzX (ix l j) V me (stV en va st N),inzM (ix l j) V me,inzC (ix l j) V cl,stS en st N,inzA (ix l j) an⟩ := rfl
 rw [e] at h3; exact h3
theorem E49 : Ent Try.prog 49 := ⟨_,Try.func49,by kernel_rfl,by kernel_rfl⟩
theorem F26_4 : Fld Try.prog 26 4 4 := ⟨_,_,Try.underlying26,rfl,rfl,1,(by unfold Sz; kernel_rfl),by decide⟩
theorem F72_1 : Fld Try.prog 72 1 1 := ⟨_,_,Try.underlying72,rfl,rfl,5,(by unfold Sz; kernel_rfl),by decide⟩
theorem F72_3 : Fld Try.prog 72 3 7 := ⟨_,_,Try.underlying72,rfl,rfl,1,(by unfold Sz; kernel_rfl),by decide⟩
set_option maxRecDepth 4000
theorem rEnd_ct {g0 : Nat} {v0 m0 c0 a0 : Value} {e0 x0 st0 ss0 : Int} (kd : Int) (x : Int) (ov : v0.oneCell' = true) (om : m0.oneCell' = true) (oc : c0.oneCell' = true) (oa : a0.oneCell' = true) : Tr Try.prog 49 #[.pointer (some ⟨g0,0,none⟩),.int .i64 kd,.int .i32 x] [] [bx g0 72 [v0,.int .i64 e0,.int .i32 x0,m0,c0,.int .i64 st0,a0,.int .i64 ss0]] (fun _ : Unit => .tuple #[]) (fun _ => []) (fun _ _ => [bx g0 72 [v0,.int .i64 kd,.int .i32 x,m0,c0,.int .i64 st0,a0,.int .i64 ss0]]) := by
 refine jenter (args := [.pointer (some ⟨g0,0,none⟩),.int .i64 kd,.int .i32 x]) Try.func49 rfl rfl rfl fun w0 X => ?_
 refine jr (jm Z (jm Z (jm Z (jm Z (js (jnil Z) (js (jf F72_1 Z) (js (jf F26_0 Z) (jst k0 Z3 Z Z Z s1 (js (jnil Z) (js (jf F72_1 Z) (js (jf F26_1 Z) ?_)))))))))))
 refine jst k0 Z21 Z Z Z s2 (jn ?_)
 exact jd0 Z () Z dn (fun _ _ => (kc k0 kn))
theorem rStep_ct {g0 : Nat} {v0 m0 c0 a0 : Value} {e0 x0 st0 ss0 : Int} (ov : v0.oneCell' = true) (om : m0.oneCell' = true) (oc : c0.oneCell' = true) (oa : a0.oneCell' = true) (hs9 : 0 ≤ st0 ∧ st0 ≤ 1000000000) : Tr Try.prog 25 #[.pointer (some ⟨g0,0,none⟩)] [] [bx g0 72 [v0,.int .i64 e0,.int .i32 x0,m0,c0,.int .i64 st0,a0,.int .i64 ss0]] (fun _ : Unit => .bool (stB e0 st0 ss0)) (fun _ => []) (fun _ _ => [bx g0 72 [v0,.int .i64 (stE e0 st0 ss0),.int .i32 (stV e0 x0 st0 ss0),m0,c0,.int .i64 (stS e0 st0 ss0),a0,.int .i64 ss0]]) := by
 refine jenter (args := [.pointer (some ⟨g0,0,none⟩)]) Try.func25 rfl rfl rfl fun w0 X => ?_
 refine jq (jr (ja Z (jn (jx (jq (jq (jstl Mixed (by kernel_rfl) (jt (jmv Z) (jt (jnil Z) (jt (jf F72_1 Z) (jt (jf F26_0 Z) ?_)))))))))))
 refine jt (jl k0 O3 Z Z) (jt (jeql Z Z) (jt (jmv Z) (jtg Z Z (.t _) (fun hg => jmv Z) (jtg Z Z (.t _) (fun hg => jnil (evg Z hg)) (jtg Z Z (.t _) (fun hg => jf F72_1 (evg Z hg)) (jtg Z Z (.t _) (fun hg => jf F26_4 (evg Z hg)) (jtg Z Z (.t _) (fun hg => jl k0 O3 (evg Z hg) Z) (jtg Z Z (.t _) (fun hg => jmv Z) (jtg Z Z (.t _) (fun hg => jnil (evg Z hg)) (jtg Z Z (.t _) (fun hg => jf F72_3 (evg Z hg)) (jtg Z Z (.t _) (fun hg => jl k0 O3 (evg Z hg) Z) ?_)))))))))))
 refine jtg Z Z (.t _) (fun hg => jgeq (evg Z hg) (evg Z hg)) (jt (jand Z Z) (jdn (jx ?_)))
 refine jif Z (fun hc1 => ?_) (fun hc1 => ?_)
 refine jr (jm Z (jc E49 Z Z (rEnd_ct _ _ ov om oc oa) dn (kc k0 kn) (fun _ => p0) (fun _ => p1) fun _ => jn (jx (jq (jq (jr (jm Z (js (jnil Z) (js (jf F72_1 Z) (js (jf F26_0 Z) ?_))))))))))
 refine js (jl k0 O3 Z Z) (js (jneq Z Z) (jn (jx ?_)))
 refine jif Z (fun hc2 => ?_) (fun hc2 => ?_)
 refine jq (jr (ja Z (jn (jx (jrt (jtr ?_))))))
 have q1 : stE e0 st0 ss0 = 3 := by simp_all [stE,stV,stB,stS] <;> omega
 have q2 : stV e0 x0 st0 ss0 = 0 := by simp_all [stE,stV,stB,stS] <;> omega
 have q4 : stB e0 st0 ss0 = false := by simp_all [stE,stV,stB,stS] <;> omega
 have q3 : stS e0 st0 ss0 = st0 := by simp_all [stE,stV,stB,stS] <;> omega
 simp only [q1,q2,q3,q4]
 exact jr1 Z Z () Z dn (fun _ _ => (kc k0 kn))
 exact absurd hc2 (by simp)
 refine jsk (jx (jq (jq (jr (jm Z (js (jnil Z) (js (jf F72_1 Z) (js (jf F26_0 Z) (js (jl k0 O3 Z Z) (js (jneq Z Z) (jn ?_)))))))))))
 refine jx ?_
 refine jif Z (fun hc3 => ?_) (fun hc3 => ?_)
 refine jq (jr (ja Z (jn (jx (jrt (jtr ?_))))))
 have q1 : stE e0 st0 ss0 = e0 := by simp_all [stE,stV,stB,stS] <;> omega
 have q2 : stV e0 x0 st0 ss0 = x0 := by simp_all [stE,stV,stB,stS] <;> omega
 have q4 : stB e0 st0 ss0 = false := by simp_all [stE,stV,stB,stS] <;> omega
 have q3 : stS e0 st0 ss0 = st0 := by simp_all [stE,stV,stB,stS] <;> omega
 simp only [q1,q2,q3,q4]
 exact jr1 Z Z () Z dn (fun _ _ => (kc k0 kn))
 refine jsk (jx (jq (jr (jm Z (js (jnil Z) (js (jf F72_1 Z) (js (jf F26_4 Z) (js (jl k0 O3 Z Z) (js (jadd Z Z (by omega)) (js (jnil Z) (js (jf F72_1 Z) ?_)))))))))))
 refine js (jf F26_4 Z) (jst k0 Z3 Z Z Z s5 (jn (jx (jq (jr (ja Z (jn (jx (jrt ?_)))))))))
 have q1 : stE e0 st0 ss0 = e0 := by simp_all [stE,stV,stB,stS] <;> omega
 have q2 : stV e0 x0 st0 ss0 = x0 := by simp_all [stE,stV,stB,stS] <;> omega
 have q4 : stB e0 st0 ss0 = true := by simp_all [stE,stV,stB,stS] <;> omega
 have q3 : stS e0 st0 ss0 = st0 + 1 := by simp_all [stE,stV,stB,stS] <;> omega
 simp only [q1,q2,q3,q4]
 exact jr1 Z Z () Z dn (fun _ _ => (kc k0 kn))
end Go.Proofs.Ytmfkkodnghambaa
namespace Go.Proofs.Ytmfkkodnghambaa
open Go.JE
abbrev U70 := @Try.underlying70
theorem E50 : Ent Try.prog 50 := ⟨_,Try.func50,by kernel_rfl,by kernel_rfl⟩
theorem F37_3 : Fld Try.prog 37 3 3 := ⟨_,_,Try.underlying37,rfl,rfl,1,(by unfold Sz; kernel_rfl),by decide⟩
theorem F72_0 : Fld Try.prog 72 0 0 := ⟨_,_,Try.underlying72,rfl,rfl,1,(by unfold Sz; kernel_rfl),by decide⟩
theorem O69 : One Try.prog 69 := ⟨_,Try.underlying69,rfl⟩
theorem O70 : One Try.prog 70 := ⟨_,Try.underlying70,rfl⟩
theorem J21 : (Try.prog.info? 21).bind (·.zero) = some (.int .i32 0) := by kernel_rfl
set_option maxRecDepth 4000
theorem rWords_ct {g0 gm : Nat} {V : Int → Int} {m0 c0 a0 : Value} {e0 x0 st0 ss0 : Int} {a1 : Value} {l : List Int} (om : m0.oneCell' = true) (oc : c0.oneCell' = true) (oa : a0.oneCell' = true) : Tr Try.prog 50 #[.pointer (some ⟨g0,0,none⟩),a1] [dv (rL (rI .i64)) a1 l] [bx g0 72 [.map (some gm),.int .i64 e0,.int .i32 x0,m0,c0,.int .i64 st0,a0,.int .i64 ss0],vm gm V] (fun c : Value => c) (fun _ => []) (fun B c => [bx g0 72 [.map (some gm),.int .i64 e0,.int .i32 x0,m0,c0,.int .i64 st0,a0,.int .i64 ss0],vm gm V,gl B (rI .i32) 21 c (l.map V)]) := by
 refine jenter (args := [.pointer (some ⟨g0,0,none⟩),a1]) Try.func50 rfl rfl rfl fun w0 X => ?_
 refine cvw k1 fun hvw => jq (jr (ja Z (jn (jx (jq (jq (jr (jm Z (jdq d0 fun q1 w1 => js (jln U32 d0 Z) ?_)))))))))
 refine jm Z (jn (jx (jb (cnl (r := (rI .i32)) (E := 21) ?_))))
 refine jlp (u3 fun (k : Nat) (ws : List Int) (vo : Value) => ⟨k ≤ l.length ∧ ws = (l.take k).map V,[dv (rL (rI .i64)) a1 l],[gl X.n (rI .i32) 21 vo ws,bx g0 72 [.map (some gm),.int .i64 e0,.int .i32 x0,m0,c0,.int .i64 st0,a0,.int .i64 ss0],vm gm V],[(0,.pointer (some ⟨g0,0,none⟩)),(4,vo),(7,a1),(8,.int .i64 (↑(List.length l))),(9,.int .i64 (↑k))],l.length - k⟩) (0,[],.slice none 0 0) ⟨by dsimp only; omega,rfl⟩ (dc d0 dn) (kd (kc k0 kn)) ⟨Z,Z,Z,Z,eqI (by omega),trivial⟩ ?_
 rintro ⟨k,ws,vo⟩; dsimp only [u3]; rintro ⟨hk,hws⟩
 refine cgo k0 fun w2 => ?_
 have hwl : ws.length = k := by rw [hws]; simp; omega
 refine jq (jr (js (jlss Z Z) (jn (jx (jq ?_)))))
 refine jif Z (fun hc1 => ?_) (fun hc1 => ?_)
 refine jsk (jx (jq (jb (jq (jr (js (jix U32 Z3 d0 Z Z Z (by omega)) (js (jlI (dix d0 k (by omega)) O3 Z) (ja Z (jn (jx (jr ?_)))))))))))
 refine jm Z (jm Z (js (jnil Z) (js (jf F72_0 Z) (js (jl k1 O70 Z Z) (jm Z (js (jvk U70 U3 J21 k2 Z Z) (japv U23 I21 (by decide) Z Z k0 Z (wI (wp (hvw (ix l k)))) (by omega) (fun _ => Z) fun v21 _ w3 => ja Z (jn (jbn (jx ?_))))))))))
 refine jr (js (jadd Z Z (by omega)) (jm Z (jn ?_)))
 exact jag (k + 1,ws ++ [V (ix l k)],v21) ⟨by dsimp only; omega,by dsimp only; rw [hws,take_ix (by omega),List.map_append]; rfl⟩ (dc d0 dn) (kd (kc k0 kn)) ⟨Z,Z,Z,Z,eqI (by omega),trivial⟩
 refine jex (jtx (jtx (jbh (jx (jq (jr (jm Z (ja Z (jn (jx (jrt ?_)))))))))))
 exact jr1 Z Z vo Z dn (fun _ hB => (kc k1 (kc k1 (klc (by rw [hws,List.take_of_length_le (by omega)]) hB k0 kn))))
theorem rTrap_ct {g0 : Nat} {v0 m0 c0 a0 : Value} {e0 x0 st0 ss0 : Int} (v : Int) (ok : Bool) {g2 : Nat} (ov : v0.oneCell' = true) (om : m0.oneCell' = true) (oc : c0.oneCell' = true) (oa : a0.oneCell' = true) : Tr Try.prog 51 #[.int .i32 v,.bool ok,.pointer (some ⟨g2,0,none⟩)] [] [bx g0 72 [v0,.int .i64 e0,.int .i32 x0,m0,c0,.int .i64 st0,a0,.int .i64 ss0],bx g2 69 [.pointer (some ⟨g0,0,none⟩)]] (fun _ : Unit => .int .i32 v) (fun _ => []) (fun _ _ => [bx g0 72 [v0,.int .i64 (if ok = true then e0 else 2),.int .i32 (if ok = true then x0 else -2),m0,c0,.int .i64 st0,a0,.int .i64 ss0],bx g2 69 [.pointer (some ⟨g0,0,none⟩)]]) := by
 refine jenter (args := [.int .i32 v,.bool ok,.pointer (some ⟨g2,0,none⟩)]) Try.func51 rfl rfl rfl fun w0 X => ?_
 refine jq (jr (ja Z (jn (jx (jq (jq (jr (jm Z (js (jnot Z) (jn (jx ?_)))))))))))
 refine jif Z (fun hc1 => ?_) (fun hc1 => ?_)
 refine jr (js (jl k1 O69 Z Z) (jc E49 Z Z (rEnd_ct _ _ ov om oc oa) dn (kc k0 kn) (fun _ => p0) (fun _ => p1) fun _ => jn (jx (jq (jr (jm Z (ja Z (jn (jx (jrt ?_))))))))))
 simp only [show ok = false from by simpa using hc1]
 exact jr1 Z Z () Z dn (fun _ _ => (kd kn))
 refine jsk (jx (jq (jr (jm Z (ja Z (jn (jx (jrt ?_))))))))
 simp only [show ok = true from by simpa using hc1]
 exact jr1 Z Z () Z dn (fun _ _ => (kd kn))
theorem rTerm_ct {g0 gm : Nat} {V : Int → Int} {m0 c0 a0 : Value} {e0 x0 st0 ss0 : Int} {a1a a1b : Value} {t : D.Term} (om : m0.oneCell' = true) (oc : c0.oneCell' = true) (oa : a0.oneCell' = true) (hT : ∃ s,shM t.Kind = some s ∧ (s.1 ≤ (t.Args.length : Int) ∧ (t.Args.length : Int) ≤ s.2.1) ∧ (s.2.2.1 ≤ (t.To.length : Int) ∧ (t.To.length : Int) ≤ s.2.2.2)) : Tr Try.prog 27 #[.pointer (some ⟨g0,0,none⟩),vTerm t (a1a,a1b)] [da rTerm (vTerm t (a1a,a1b)) t] [bx g0 72 [.map (some gm),.int .i64 e0,.int .i32 x0,m0,c0,.int .i64 st0,a0,.int .i64 ss0],vm gm V] (fun _ : Unit => .int .i64 (termB t V)) (fun _ => []) (fun _ _ => [bx g0 72 [.map (some gm),.int .i64 (termE t e0),.int .i32 (termV t V x0),m0,c0,.int .i64 st0,a0,.int .i64 ss0],vm gm V]) := by
 refine jenter (args := [.pointer (some ⟨g0,0,none⟩),vTerm t (a1a,a1b)]) Try.func27 rfl rfl rfl fun w0 X => ?_
 refine cvw k1 fun hvw => ?_
 have hT9 := shM_facts hT
 obtain ⟨hk0,hk1,hk2,hk3,hka⟩ := hT9
 have hun := u32_nn (ix (List.map V t.Args ++ [0]) 0)
 have hwl : (List.map V t.Args ++ [0]).length = t.Args.length + 1 := by simp
 refine jq (jr (jbox Z Z fun g3 => ja Z (jn (jx (jq (jr (jm Z (js (jf F37_1 Z) (js (jl k0 O32 Z Z) (jc E50 Z Z (rWords_ct om oc oa) (dc (rTerm.c_Args d0) dn) (kc k1 (kc k1 kn)) (fun _ => p0) (fun _ => p3) fun v10 => ?_))))))))))
 refine jgo k2 fun w1 => japv U23 I21 (by decide) Z Z k2 Z (wI (wl 0)) (by (try simp) <;> omega) (fun _ => Z) fun v12 _ w2 => ja Z (jn (jx (jq (jq (jr (js (jf F37_0 Z) (js (jl k3 O3 Z Z) (jn (jx ?_)))))))))
 refine jb (jq (jr (js (jeql Z Z) (ja Z (jn (jx ?_))))))
 refine jif Z (fun hc1 => ?_) (fun hc1 => ?_)
 have hk1 := hk1 hc1
 refine jq (jr (js (jf F37_2 Z) (js (jl k3 O32 Z Z) (jdq (rTerm.c_To d0) fun q3 w3 => js (jix (i := 0) U32 Z3 (rTerm.c_To d0) Z Z Z (by omega)) (js (jlI (dix (rTerm.c_To d0) 0 (by omega)) O3 Z) (ja Z (jn (jx (jrt (jbr ?_))))))))))
 refine jtr ?_
 have q1 : termB t V = ix t.To 0 := by first | (simp [termB,termE,termV,wT,hc1]; done) | (unfold termB; (repeat' split) <;> first | rfl | (exfalso; omega) | (simp_all [wT]; done)) | skip
 have q2 : termE t e0 = e0 := by first | (simp [termB,termE,termV,wT,hc1]; done) | (unfold termE; (repeat' split) <;> first | rfl | (exfalso; omega) | (simp_all [wT]; done)) | skip
 have q3 : termV t V x0 = x0 := by first | (simp [termB,termE,termV,wT,hc1]; done) | (unfold termV; (repeat' split) <;> first | rfl | (exfalso; omega) | (simp_all [wT]; done)) | skip
 simp only [q1,q2,q3]
 exact jr1 Z Z () Z dn (fun _ _ => (kc k1 (kc k1 kn)))
 refine jq (jr (js (jeql Z Z) (ja Z (jn (jx ?_)))))
 refine jif Z (fun hc2 => ?_) (fun hc2 => ?_)
 have hk2 := hk2 hc2
 refine jq (jq (jr (jm Z (js (jig (i := 0) U23 Z21 k0 Z Z Z (by first | omega | (simp <;> omega))) (js (jgI k0 (by first | omega | (simp <;> omega)) O21 Z) (js (jneq Z Z) (jn (jx ?_))))))))
 refine jif Z (fun hc3 => ?_) (fun hc3 => ?_)
 refine jq (jr (js (jf F37_2 Z) (js (jl k3 O32 Z Z) (jdq (rTerm.c_To d0) fun q4 w4 => js (jix (i := 0) U32 Z3 (rTerm.c_To d0) Z Z Z (by omega)) (js (jlI (dix (rTerm.c_To d0) 0 (by omega)) O3 Z) (ja Z (jn (jx (jrt (jtr ?_))))))))))
 refine jbr (jtr ?_)
 have q1 : termB t V = ix t.To 0 := by first | (simp [termB,termE,termV,wT,hc1,hc2,hc3]; done) | (unfold termB; (repeat' split) <;> first | rfl | (exfalso; omega) | (simp_all [wT]; done)) | skip
 have q2 : termE t e0 = e0 := by first | (simp [termB,termE,termV,wT,hc1,hc2,hc3]; done) | (unfold termE; (repeat' split) <;> first | rfl | (exfalso; omega) | (simp_all [wT]; done)) | skip
 have q3 : termV t V x0 = x0 := by first | (simp [termB,termE,termV,wT,hc1,hc2,hc3]; done) | (unfold termV; (repeat' split) <;> first | rfl | (exfalso; omega) | (simp_all [wT]; done)) | skip
 simp only [q1,q2,q3]
 exact jr1 Z Z () Z dn (fun _ _ => (kc k1 (kc k1 kn)))
 refine jsk (jx (jq (jr (js (jf F37_2 Z) (js (jl k3 O32 Z Z) (jdq (rTerm.c_To d0) fun q5 w5 => js (jix (i := 1) U32 Z3 (rTerm.c_To d0) Z Z Z (by omega)) (js (jlI (dix (rTerm.c_To d0) 1 (by omega)) O3 Z) (ja Z (jn (jx ?_))))))))))
 refine jrt (jbr (jtr ?_))
 have q1 : termB t V = ix t.To 1 := by first | (simp [termB,termE,termV,wT,hc1,hc2,hc3]; done) | (unfold termB; (repeat' split) <;> first | rfl | (exfalso; omega) | (simp_all [wT]; done)) | skip
 have q2 : termE t e0 = e0 := by first | (simp [termB,termE,termV,wT,hc1,hc2,hc3]; done) | (unfold termE; (repeat' split) <;> first | rfl | (exfalso; omega) | (simp_all [wT]; done)) | skip
 have q3 : termV t V x0 = x0 := by first | (simp [termB,termE,termV,wT,hc1,hc2,hc3]; done) | (unfold termV; (repeat' split) <;> first | rfl | (exfalso; omega) | (simp_all [wT]; done)) | skip
 simp only [q1,q2,q3]
 exact jr1 Z Z () Z dn (fun _ _ => (kc k1 (kc k1 kn)))
 refine jq (jr (js (jeql Z Z) (ja Z (jn (jx ?_)))))
 refine jif Z (fun hc4 => ?_) (fun hc4 => ?_)
 have hk3 := hk3 hc4
 refine jq (jr (js (jf F37_2 Z) (js (jl k3 O32 Z Z) (jdq (rTerm.c_To d0) fun q6 w6 => js (jln U32 (rTerm.c_To d0) Z) (js (jsub Z Z (by omega)) (ja Z (jn (jx (jq (jstl Mixed (by kernel_rfl) ?_))))))))))
 refine jt (jf F37_2 Z) (jt (jl k3 O32 Z Z) (jt (jmv Z) (jt (jig (i := 0) U23 Z21 k0 Z Z Z (by first | omega | (simp <;> omega))) (jt (jgI k0 (by first | omega | (simp <;> omega)) O21 Z) (jt (jco U21 U62 Z Z) (jt (jmv Z) (jt (jco U3 U62 Z (IntWalk.u32_in _ (by omega))) (jt (jmin Z Z) (jt (jix (i := (Int.toNat (min (IntKind.u32.wrap (ix ((List.map V t.Args) ++ [0]) 0)) ((↑(List.length t.To)) - 1)))) U32 Z3 (rTerm.c_To d0) Z Z (by omega) (by omega)) (jt (jlI (dix (rTerm.c_To d0) (Int.toNat (min (IntKind.u32.wrap (ix ((List.map V t.Args) ++ [0]) 0)) ((↑(List.length t.To)) - 1))) (by omega)) O3 Z) (jt (jas Z) ?_)))))))))))
 refine jdn (jx (jrt (jbr (jtr ?_))))
 have q1 : termB t V = ix t.To (Int.toNat (min (IntKind.u32.wrap (ix ((List.map V t.Args) ++ [0]) 0)) ((((List.length t.To : Nat) : Int)) - 1))) := by first | (simp [termB,termE,termV,wT,hc1,hc2,hc4]; done) | (unfold termB; (repeat' split) <;> first | rfl | (exfalso; omega) | (simp_all [wT]; done)) | skip
 have q2 : termE t e0 = e0 := by first | (simp [termB,termE,termV,wT,hc1,hc2,hc4]; done) | (unfold termE; (repeat' split) <;> first | rfl | (exfalso; omega) | (simp_all [wT]; done)) | skip
 have q3 : termV t V x0 = x0 := by first | (simp [termB,termE,termV,wT,hc1,hc2,hc4]; done) | (unfold termV; (repeat' split) <;> first | rfl | (exfalso; omega) | (simp_all [wT]; done)) | skip
 simp only [q1,q2,q3]
 exact jr1 Z Z () Z dn (fun _ _ => (kc k1 (kc k1 kn)))
 refine jq (jr (js (jeql Z Z) (ja Z (jn (jx ?_)))))
 refine jif Z (fun hc5 => ?_) (fun hc5 => ?_)
 refine jr (jm Z (jm Z (js (jig (i := 0) U23 Z21 k0 Z Z Z (by first | omega | (simp <;> omega))) (js (jgI k0 (by first | omega | (simp <;> omega)) O21 Z) (jc E49 Z Z (rEnd_ct _ _ Z om oc oa) dn (kc k1 kn) (fun _ => p0) (fun _ => p1) fun _ => jn (jbn (jx (jq (jr (ja Z ?_))))))))))
 refine jn (jx (jrt ?_))
 have q1 : termB t V = 0 := by first | (simp [termB,termE,termV,wT,hc1,hc2,hc4,hc5]; done) | (unfold termB; (repeat' split) <;> first | rfl | (exfalso; omega) | (simp_all [wT]; done)) | skip
 have q2 : termE t e0 = 1 := by first | (simp [termB,termE,termV,wT,hc1,hc2,hc4,hc5]; done) | (unfold termE; (repeat' split) <;> first | rfl | (exfalso; omega) | (simp_all [wT]; done)) | skip
 have q3 : termV t V x0 = ix ((List.map V t.Args) ++ [0]) 0 := by first | (simp [termB,termE,termV,wT,hc1,hc2,hc4,hc5]; done) | (unfold termV; (repeat' split) <;> first | rfl | (exfalso; omega) | (simp_all [wT]; done)) | skip
 simp only [q1,q2,q3]
 exact jr1 Z Z () Z dn (fun _ _ => (kc k0 (kc k1 kn)))
 refine jr (jm Z (js (jf F37_3 Z) (js (jl k3 O21 Z Z) (jc E49 Z Z (rEnd_ct _ _ Z om oc oa) dn (kc k1 kn) (fun _ => p0) (fun _ => p1) fun _ => jn (jbn (jx (jq (jr (ja Z (jn ?_))))))))))
 refine jx (jrt ?_)
 have q1 : termB t V = 0 := by first | (simp [termB,termE,termV,wT,hc1,hc2,hc4,hc5]; done) | (unfold termB; (repeat' split) <;> first | rfl | (exfalso; omega) | (simp_all [wT]; done)) | skip
 have q2 : termE t e0 = 2 := by first | (simp [termB,termE,termV,wT,hc1,hc2,hc4,hc5]; done) | (unfold termE; (repeat' split) <;> first | rfl | (exfalso; omega) | (simp_all [wT]; done)) | skip
 have q3 : termV t V x0 = t.Imm := by first | (simp [termB,termE,termV,wT,hc1,hc2,hc4,hc5]; done) | (unfold termV; (repeat' split) <;> first | rfl | (exfalso; omega) | (simp_all [wT]; done)) | skip
 simp only [q1,q2,q3]
 exact jr1 Z Z () Z dn (fun _ _ => (kc k0 (kc k1 kn)))
end Go.Proofs.Ytmfkkodnghambaa
namespace Go.Proofs.Ytmfkkodnghambaa
open Go.JE
theorem E47 : Ent Try.prog 47 := ⟨_,Try.func47,by kernel_rfl,by kernel_rfl⟩
theorem E48 : Ent Try.prog 48 := ⟨_,Try.func48,by kernel_rfl,by kernel_rfl⟩
set_option maxRecDepth 4000
theorem rPhis1_ct {x : D.In} {c : Int} {g1 : Nat} : Tr Try.prog 48 #[vIn x (),.pointer (some ⟨g1,0,none⟩)] [da rIn (vIn x ()) x] [bx g1 3 [.int .i64 c]] (fun _ : Unit => .bool (isFrom c x)) (fun _ => []) (fun _ _ => [bx g1 3 [.int .i64 c]]) := by
 refine jenter (args := [vIn x (),.pointer (some ⟨g1,0,none⟩)]) Try.func48 rfl rfl rfl fun w0 X => ?_
 refine jq (jr (jbox Z Z fun g2 => ja Z (jn (jx (jq (jr (js (jf F54_0 Z) (js (jl k0 O3 Z Z) (js (jl k1 O3 Z Z) (js (jeql Z Z) ?_))))))))))
 refine ja Z (jn (jx (jrt ?_)))
 exact jr1 Z Z () (congrArg Value.bool (Eq.symm (by rfl))) dn (fun _ _ => (kc k1 kn))
theorem rPhis_ct {g0 gm : Nat} {V : Int → Int} {m0 c0 a0 : Value} {e0 x0 st0 ss0 : Int} {a1 : Value} {l : List D.Phi} (fr : Int) (om : m0.oneCell' = true) (oc : c0.oneCell' = true) (oa : a0.oneCell' = true) (hp : ∀ p ∈ l,fr ∈ p.In.map (fun x => x.From)) : Tr Try.prog 24 #[.pointer (some ⟨g0,0,none⟩),a1,.int .i64 fr] [dv (rL rPhi) a1 l] [bx g0 72 [.map (some gm),.int .i64 e0,.int .i32 x0,m0,c0,.int .i64 st0,a0,.int .i64 ss0],vm gm V] (fun _ : Unit => .tuple #[]) (fun _ => []) (fun _ _ => [bx g0 72 [.map (some gm),.int .i64 e0,.int .i32 x0,m0,c0,.int .i64 st0,a0,.int .i64 ss0],vm gm (phisV fr l V)]) := by
 refine jenter (args := [.pointer (some ⟨g0,0,none⟩),a1,.int .i64 fr]) Try.func24 rfl rfl rfl fun w0 X => ?_
 refine cvw k1 fun hvw => jq (jr (jbox Z Z fun g5 => jn (jx (jq (jr (jnn fun g12 => ja Z (jn (jx ?_))))))))
 refine jq (jq (jr (jm Z (jdq d0 fun q1 w1 => js (jln U50 d0 Z) (jm Z (jn (jx (jb ?_))))))))
 refine jlp (u2 fun (k : Nat) (nx : List (Int × Int)) => ⟨k ≤ l.length ∧ nx = phWl fr V (l.take k) [],[dv (rL rPhi) a1 l],[nm g12 nx,bx g5 3 [.int .i64 fr],bx g0 72 [.map (some gm),.int .i64 e0,.int .i32 x0,m0,c0,.int .i64 st0,a0,.int .i64 ss0],vm gm V],[(0,.pointer (some ⟨g0,0,none⟩)),(5,.pointer (some ⟨g5,0,none⟩)),(6,.map (some g12)),(13,a1),(14,.int .i64 (↑(List.length l))),(15,.int .i64 (↑k))],l.length - k⟩) (0,[]) ⟨by dsimp only; omega,rfl⟩ (dc d0 dn) (kd (kd kn)) ⟨Z,Z,Z,Z,Z,eqI (by omega),trivial⟩ ?_
 rintro ⟨k,nx⟩; dsimp only [u2]; rintro ⟨hk,hnx⟩
 refine jq (jr (js (jlss Z Z) (jn (jx (jq ?_)))))
 refine jif Z (fun hc1 => ?_) (fun hc1 => ?_)
 have hix := idx_from (hp _ (ix_mem (l := l) (i := k) (by omega)))
 refine jsk (jx (jq (jb (jq (jr (js (jix U50 Z57 d0 Z Z Z (by omega)) (jA sPhi (jlA (dix d0 k (by omega)) A57 Z57 Z) fun c18 => jalc J57 Z fun g8 => jdq (rPhi.c_In d0) fun q3 w3 => jsta k0 Z57 Z Z Z ⟨Z,w3.one,trivial⟩ (saf Z) (jn ?_))))))))
 refine jx (jq (jr (js (jf F57_1 Z) (js (jl k0 O55 Z Z) (js (jmf1 Z) (jcp E47 Z Z (idxFIn_ct (isFrom fr) E48 (fun x _ c => Tr.it rPhis1_ct ir)) (dc (rPhi.c_In d0) (dc (db dn) dn)) (kc k2 kn) p1 (ja Z (jn (jx (jany false (.a 0 (.a 1 (.a 2 (.a 3 (.a 4 (.a 5 (.a 6 (.a 7 (.a 8 (.a 9 (.a 10 (.a 11 (.a 12 (.a 13 (.o 14 .e))))))))))))))) Mixed (by kernel_rfl) (kc k1 (kc k2 (kc k2 kn))) fun F4 => jy Z (jmv Z) ?_))))))))))
 refine jy Z (jf F57_0 Z) (jy Z (jl k0 O3 Z Z) (jy Z (jmv Z) (jy Z (jnil Z) (jy Z (jf F72_0 Z) (jy Z (jl k1 O70 Z Z) (jy Z (jf F57_1 Z) (jy Z (jl k0 O55 Z Z) (jy Z (jmv Z) (jy Z (jix (i := (Int.toNat (idxM ((ix l k).In) (isFrom fr)))) U55 Z54 (rPhi.c_In d0) Z Z (by omega) (by omega)) (jy Z (jf F54_1 Z) (jy Z (jlI (rIn.A_Val (dix (rPhi.c_In d0) (Int.toNat (idxM ((ix l k).In) (isFrom fr))) (by omega))) O3 Z) ?_)))))))))))
 refine jy Z (jvk U70 U3 J21 k2 Z Z) (jyo Z (jnu U70 U3 k2 Z Z Z (jyn d0 (kc k2 (kc k2 (kc k2 kn))) (jyd (jbn (jx (jr (js (jadd Z Z (by omega)) (jm Z (jn ?_))))))))))
 exact jag (k + 1,upW nx ((ix l k).Dst) (V ((ix ((ix l k).In) (Int.toNat (idxM ((ix l k).In) (isFrom fr)))).Val))) ⟨by dsimp only; omega,by dsimp only; rw [phWl_nx (by omega),← hnx]⟩ (dc d2 dn) (kd (kc k1 (kc k1 kn))) ⟨Z,Z,Z,Z,Z,eqI (by omega),trivial⟩
 have hnd : (nx.map (·.1)).Nodup := by rw [hnx]; exact phWl_nd _ _ (by simp)
 have hnw : ∀ p ∈ nx,IntKind.i32.wrap p.2 = p.2 := by rw [hnx]; exact encW_wr (nx := []) hvw _ _ (fun p h => by cases h)
 refine jex (jtx (jtx (jbh (jx (jq (jr (jm Z (jri U70 k0 Z fun g39 => jn (jx (jb ?_))))))))))
 refine jlp (u2 fun (vis : List Int) (V2 : Int → Int) => ⟨(vis.Nodup ∧ ∀ y ∈ vis,y ∈ nx.map (·.1)) ∧ V2 = partW nx vis V,[],[mit g39 g12 nx vis,bx g0 72 [.map (some gm),.int .i64 e0,.int .i32 x0,m0,c0,.int .i64 st0,a0,.int .i64 ss0],vm gm V2],[(0,.pointer (some ⟨g0,0,none⟩)),(39,.pointer (some ⟨g39,0,none⟩))],nx.length - vis.length⟩) ([],V) ⟨⟨by simp,by simp⟩,by dsimp only; funext j; simp [partW]⟩ dn (kc k0 (kc k1 (kc k1 kn))) ⟨Z,Z,trivial⟩ ?_
 rintro ⟨vis,V2⟩; dsimp only [u2]; rintro ⟨hv,hV2⟩
 refine jq (jr ?_)
 refine jni k0 Z (fun hd1 => ?_) (fun y1 z1 hy1 hn1 => ?_)
 refine js (jex' Z Z) (jn (jx (jq ?_)))
 refine jif Z (fun hc2 => ?_) (fun hc2 => ?_)
 exact absurd hc2 (by simp)
 refine jex (jtx (jtx (jbh ?_)))
 obtain rfl : V2 = phisV fr l V := by rw [hV2,partW_all hd1,hnx,List.take_of_length_le (by omega)]; rfl
 exact jd0 Z () Z dn (fun _ _ => (kc k1 (kc k1 kn)))
 have hlt1 := visW_lt hv.1 hv.2 hy1 hn1
 refine js (jex' Z Z) (jn (jx (jq ?_)))
 refine jif Z (fun hc3 => ?_) (fun hc3 => ?_)
 refine jsk (jx (jb (jq (jr (js (jei k0 hy1 Z) (js (jex' Z Z) (js (jex' Z Z) (ja Z (ja Z (jn (jx ?_)))))))))))
 refine jr (jm Z (js (jnil Z) (js (jf F72_0 Z) (js (jl k1 O70 Z Z) (jm Z (jm Z (jvu U70 U3 k2 Z Z Z (wp (hnw _ hy1)) (jn (jbn ?_)))))))))
 exact jag (vis ++ [y1],setV V2 y1 z1) ⟨⟨vis_nd9 hv.1 hn1,fun y h => (List.mem_append.1 h).elim (hv.2 y) (fun h => by simp at h; subst h; exact List.mem_map.2 ⟨_,hy1,rfl⟩)⟩,by dsimp only; rw [hV2]; exact partW_nx hnd hy1⟩ dn (kc k1 (kc k1 (kc k0 kn))) ⟨Z,Z,trivial⟩ (by dsimp only [u2]; rw [List.length_append]; simp; omega)
 exact absurd hc3 (by simp)
end Go.Proofs.Ytmfkkodnghambaa
