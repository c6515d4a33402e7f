/- Lemmas that the claim is made of. Conditions: each lemma names its own. -/
import Derived.Test.YtmfkkodnghambaaGreatKM4
import Derived.Recover
import Derived.Test.YtmfkkodnghambaaGreatKM1
set_option maxRecDepth 20000
set_option maxHeartbeats 4000000
set_option linter.unusedSectionVars false
set_option linter.unusedSimpArgs false
set_option linter.unusedVariables false
namespace Go.JE
variable{P:Program}{n:Fs}{w0:World}{Q:Exit→Act→World→Prop}{e:Env}{H:Heap}
theorem HU{ρ:Operand→Value}{x:Operand}{t:TypeId}{f:FuncId}{lb:Array Value}(h:ρ x = .func (.func f) #[] lb)(w:World):(resolve ρ { callee := .value x,args:=#[],argTypes:=#[] } t).run P w = .ok { target := .fn (.func f) lb,args:=#[] } w:=by
 simp[resolve,h,Deferred.ofValue]
theorem LF.dfr{ops:Array Oper}{x:Operand}{ty:TypeId}{pos:String}{af:Array Edge}{rest:List Oper}{f:FuncId}{lb:Array Value}(hx:ev e x=some (.func (.func f) #[] lb))
  (K:LF P ⟨n.sz,{ target := .fn (.func f) lb,args:=#[] }::n.ds⟩ w0 ops Q e rest H):LF P n w0 ops Q e (⟨none,.defer { callee := .value x,args:=#[],argTypes:=#[] },ty,pos,af,none⟩::rest) H:=by
 intro a w hf hw
 refine wpList_plain rfl fun K' hK'=>?_
 unfold Oper.wp
 have hr:(execOp a.eval ⟨none,.defer { callee := .value x,args:=#[],argTypes:=#[] },ty,pos,af,none⟩).run P w = .ok (.defer { target := .fn (.func f) lb,args:=#[] }) w:=by
  simp[execOp,HU (hf.ev hx)]
 rw[hr]
 exact hK' _ _ (K _ _ ⟨hf.size,by show _::a.defers=_;rw[hf.defers],hf.get⟩ hw)
theorem Z1{f:FuncId}{lb:Array Value}(hE:Ent P f)(w:World):(invoke (.fn (.func f) lb) #[]).run P w = .ok (.enter f lb) w:=by
 simp only[invoke]
 rw[show(#[]++lb:Array Value)=lb by simp]
 exact hE.run lb w
theorem Aa.eqlIf{T T':TypeId}{x:Operand}(hT:P.underlying T=some (.interface #[]))(hx:ev e x=some .nilIface):Aa P e (.binOp .eql T x (.const .nilIface) T') H (.bool true):=by
 intro ρ o w ho hev _
 have h1:∀d,(Op.equalIn (d+1) T .nilIface .nilIface).run P w = .ok true w:=fun d=>by
  simp only[Op.equalIn,Sem.run_bind,run_underlying hT,Result.andThen_ok];rfl
 have h2:(Op.equal T .nilIface .nilIface).run P w = .ok true w:=h1 9999
 have h3:∀d,(Op.eqGuardIn (d+1) T .nilIface .nilIface).run P w = .ok false w:=fun d=>by
  simp only[Op.eqGuardIn,Sem.run_bind,run_underlying hT,Result.andThen_ok];rfl
 have hy:ρ (.const .nilIface) = .nilIface:=hev _ _ rfl
 simp only[execOp,ho,hev _ _ hx,hy,eqGuard,binOp]
 simp[h2,h3]
theorem SD{f:FuncId}{fn:Func}{args:List Value}{id d m:Nat}{ty:TypeId}{pos:String}{af:Array Edge}{c:Code}{R:Value→Heap→Prop}{w:World}(hf:P.funcs[f]? = some fn)
  (hb:fn.body=some (.seq (.region id #[⟨some d,.call { callee := .builtin .recover,args:=#[],argTypes:=#[] },ty,pos,af,none⟩] false) c)) (hn:fn.ntmps=m) (ha:Nat.ble args.length m=true) (hd:Nat.blt d m=true)
  (h:CF P ⟨m,[]⟩ w (BQ P fn w R) ((d,.nilIface)::Gv 0 args) c w.heap) :
  CallsD P f args.toArray .returning w fun x u' w'=>u' = .returning∧∃v,x = .returned v∧w'.os=w.os∧w'.tape=w.tape∧w'.output=w.output∧R v w'.heap:=by
 refine callsD_of_wpS hf hb fun c₀ cs hu=>wpS_seq (wpS_region ?_)
 have hl:List.range (#[(⟨some d,.call { callee := .builtin .recover,args:=#[],argTypes:=#[] },ty,pos,af,none⟩:Oper)]).size=[0]:=rfl
 rw[hl]
 have ha':args.length≤m:=by simpa[Nat.ble_eq] using ha
 have hfr:Fr ⟨m,[]⟩ (Gv 0 args) { tmps:=args.toArray++Array.replicate (fn.ntmps-args.toArray.size) undef,defers:=[] }:=by
  refine⟨by simp[hn];omega,rfl,fun t v hv=>?_⟩
  obtain⟨i,h1,h2⟩:=Mw args 0 t v hv
  have hi:i<args.length:=(List.getElem?_eq_some_iff.1 h2).1
  have e1:t=i:=by omega
  subst e1
  simp only[Array.getD_eq_getD_getElem?]
  rw[Array.getElem?_append_left (by simpa using hi)]
  simp[h2]
 have hrun:∀ρ,(execOp ρ (⟨some d,.call { callee := .builtin .recover,args:=#[],argTypes:=#[] },ty,pos,af,none⟩:Oper)).run P w = .ok .recover w:=fun ρ=>by
  simp[execOp,resolve,invoke,builtin]
 have hrec:recoverD (c₀::cs)=none:=by simp[recoverD,hu]
 simp only[wpOpsS,List.getElem?_toArray,List.getElem?_cons_zero,Region.wanted,if_true,hrun,hrec]
 have h2:=h _ _ (hfr.put hd .nilIface) ⟨rfl,rfl,rfl,rfl⟩
 refine wpS_of_wp (Code.wp_mono ?_ h2)
 intro x a' w' hq
 cases x with
 | normal=>obtain⟨h1,v,h3,h4⟩:=hq;exact⟨h1,.returning,by rw[←hu],v,h3,rfl,v,rfl,by obtain⟨_,e,h5⟩:=h4;injection e with e;subst e;exact h5⟩
 | ret=>obtain⟨h1,v,h3,h4⟩:=hq;exact⟨h1,.returning,by rw[←hu],v,h3,rfl,v,rfl,by obtain⟨_,e,h5⟩:=h4;injection e with e;subst e;exact h5⟩
 | panic ch=>obtain⟨_,_,e,_⟩:=hq;cases e
 | exit i=>exact hq
 | goto l=>exact hq
 | outgrown=>obtain⟨_,e,_⟩:=hq;cases e
def BQD(P:Program)(fn:Func)(w0:World)(R:Value→Heap→Prop):Exit→Act→World→Prop :=
 bodyPostD P fn fun x w'=>∃v,x = .returned v∧w'.os=w0.os∧w'.tape=w0.tape∧w'.output=w0.output∧R v w'.heap
theorem Ct.enterD{f:FuncId}{fn:Func}{c:Code}{args:List Value}{m:Nat}{R:Value→Heap→Prop}(hf:P.funcs[f]? = some fn)(hb:fn.body=some c)(hn:fn.ntmps=m)(ha:Nat.ble args.length m=true)
  (h:∀w0:World,w0.heap=H→CF P ⟨m,[]⟩ w0 (BQD P fn w0 R) (Gv 0 args) c H):Ct P f args.toArray H R:=by
 intro w hw
 refine calls_of_wp_defers hf hb ?_
 have ha':args.length≤m:=by simpa[Nat.ble_eq] using ha
 refine h w hw _ w ⟨by simp[hn];omega,rfl,fun t v hv=>?_⟩ ⟨hw,rfl,rfl,rfl⟩
 obtain⟨i,h1,h2⟩:=Mw args 0 t v hv
 have hi:i<args.length:=(List.getElem?_eq_some_iff.1 h2).1
 have e1:t=i:=by omega
 subst e1
 simp only[Array.getD_eq_getD_getElem?]
 rw[Array.getElem?_append_left (by simpa using hi)]
 simp[h2]
theorem L4{fn:Func}{p q r g g' g'':Nat}{ty ty' ty'':TypeId}{v v' v'':Value}(h:fn.results=#[.cell p ty,.cell q ty',.cell r ty''])(tmps:Array Value)(w:World)(hp:tmps.getD p undef = .pointer (some ⟨g,0,none⟩))(hO:One P ty)(hc:w.cell? ⟨g,0,none⟩=some v)
  (hp':tmps.getD q undef = .pointer (some ⟨g',0,none⟩)) (hO':One P ty') (hc':w.cell? ⟨g',0,none⟩=some v') (hp'':tmps.getD r undef = .pointer (some ⟨g'',0,none⟩)) (hO'':One P ty'') (hc'':w.cell? ⟨g'',0,none⟩=some v'') :
  (results fn tmps).run P w = .ok (.tuple #[v,v',v'']) w:=by
 have h1:tmps[p]?.getD undef = .pointer (some ⟨g,0,none⟩):=by simpa using hp
 have h2:tmps[q]?.getD undef = .pointer (some ⟨g',0,none⟩):=by simpa using hp'
 have h3:tmps[r]?.getD undef = .pointer (some ⟨g'',0,none⟩):=by simpa using hp''
 simp[results,h,h1,h2,h3,asAddr,loadVar,hO.run,hO'.run,hO''.run,hc,hc',hc'']
theorem PF.retD{fn:Func}{m f:Nat}{lb:Array Value}{R:Value→Heap→Prop}{v:Value}(hE:Ent P f)(hc:∀w:World,w.heap=H→CallsD P f lb .returning w fun x u' w'=>u' = .returning∧∃v',x = .returned v'∧w'.os=w.os∧w'.tape=w.tape∧w'.output=w.output∧w'.heap=H)
  (hr:∀(a:Act) (w:World),Fr ⟨m,[{ target := .fn (.func f) lb,args:=#[] }]⟩ e a→w.heap=H→(results fn a.tmps).run P w = .ok v w) (hR:R v H):PF ⟨m,[{ target := .fn (.func f) lb,args:=#[] }]⟩ w0 (BQD P fn w0 R) e .ret H:=by
 intro a w hf hw
 show Leaves P fn a.tmps _ a.defers .returning w
 rw[hf.defers]
 refine leaves_cons (by simp) (Z1 hE w) ((hc w hw.heap).mono ?_)
 rintro x u' w' ⟨rfl,v',rfl,h1,h2,h3,h4⟩
 exact⟨v,hr a w' hf h4,v,rfl,h1.trans hw.os,h2.trans hw.tape,h3.trans hw.output,h4▸hR⟩
section
variable{f:FuncId}{fn:Func}{c:Code}{args:List Value}{D D0:List Dt}{L L0 M:List Res}{X:Cx}{ι:Type}{val:ι→Value}{dr:ι→List Dt}{lr:Nat→ι→List Res}
def RQD(P:Program)(fn:Func)(w0:World)(X:Cx){ι:Type}(val:ι→Value)(dr:ι→List Dt)(lr:Nat→ι→List Res):Exit→Act→World→Prop:=BQD P fn w0 (fun v H'=>∃i F',v=val i∧∀B,B≤X.n→Hp X (dr i) (lr B i) F' H')
theorem NW{m:Nat}(hf:P.funcs[f]? = some fn)(hb:fn.body=some c)(hn:fn.ntmps=m)(ha:Nat.ble args.length m=true)
  (h:∀(w0:World) (X:Cx),CH P ⟨m,[]⟩ w0 (RQD P fn w0 X val dr lr) X D0 L0 (Gv 0 args) c):Tr P f args.toArray D0 L0 val dr lr:=fun F H hin hd ho =>
 Ct.enterD hf hb hn ha fun w0 hw=>h w0 ⟨Own L0,H,F⟩ F H ⟨PH.ext.refl F,hin,Kw.refl _ _,hd,ho,fun k hk => .inr hk⟩
theorem jdf{ops:Array Oper}{x:Operand}{ty:TypeId}{pos:String}{af:Array Edge}{rest:List Oper}{f:FuncId}{lb:Array Value}(hx:ev e x=some (.func (.func f) #[] lb))
 (K:LH P ⟨n.sz,{ target := .fn (.func f) lb,args:=#[] }::n.ds⟩ w0 ops Q X D L e rest):LH P n w0 ops Q X D L e (⟨none,.defer { callee := .value x,args:=#[],argTypes:=#[] },ty,pos,af,none⟩::rest):=fun F H hp=>LF.dfr hx (K F H hp)
theorem NE{m f':Nat}{lb:Array Value}{p q r g g' g'':Nat}{ty ty' ty'' T T' T'':TypeId}{v v' v'':Value}{N N' N'':List Res}(hr:fn.results=#[.cell p ty,.cell q ty',.cell r ty''])(hv:lk e p=some (.pointer (some ⟨g,0,none⟩)))(hv':lk e q=some (.pointer (some ⟨g',0,none⟩)))(hv'':lk e r=some (.pointer (some ⟨g'',0,none⟩)))
  (hb:Tk L (bx g T [v]) N) (hO:One P ty) (hb':Tk L (bx g' T' [v']) N') (hO':One P ty') (hb'':Tk L (bx g'' T'' [v'']) N'') (hO'':One P ty'') (hE:Ent P f')
  (hc:∀w:World,CallsD P f' lb .returning w fun x u' w'=>u' = .returning∧∃v',x = .returned v'∧w'.os=w.os∧w'.tape=w.tape∧w'.output=w.output∧w'.heap=w.heap)
  (i:ι) (hm : .tuple #[v,v',v'']=val i) (hd:Sd D L (dr i)) (hk:∀B,B≤X.n→Tks L (lr B i) M):QH ⟨m,[{ target := .fn (.func f') lb,args:=#[] }]⟩ w0 (RQD P fn w0 X val dr lr) X D L e .ret:=fun F H hp =>
 PF.retD hE (fun w hw=>by have h:=hc w;rw[hw] at h;exact h) (fun a w hf hw=>L4 hr _ w (hf.get p _ hv) hO (by rw[Jp,hw];exact(hp.at hb).1.hc rfl) (hf.get q _ hv') hO' (by rw[Jp,hw];exact(hp.at hb').1.hc rfl) (hf.get r _ hv'') hO'' (by rw[Jp,hw];exact(hp.at hb'').1.hc rfl)) ⟨i,F,hm,fun B hB=>hp.sub hd (hk B hB)⟩
end
end Go.JE
namespace Go.JE
variable{P:Program}{D D0:List Dt}{L M Ls L0:List Res}{e:Env}{X:Cx}{n:Fs}{w0:World}{Q:Exit→Act→World→Prop}
def VmR(l:List (Int×Value))(V:Int→Int):Prop:=∀k,(lkM l k).getD (.int .i32 0) = .int .i32 (V k)
def vm(g:Nat)(V:Int→Int):Res where
 sat F H:=((∃l,Im H g l∧VmR l V)∧∀k,IntKind.i32.wrap (V k)=V k)∧F g=none
 own k:=k=g
 lt:=fun⟨⟨⟨l,h,_⟩,_⟩,_⟩ e=>e▸h.lt
 no:=fun h e=>e▸h.2
 st:=fun _ _ h1 h2 ⟨⟨⟨l,h,h3⟩,h4⟩,_⟩=>⟨⟨⟨l,h.of (h2 g rfl),h3⟩,h4⟩,h1 g rfl⟩
def vme(g:Nat)(V:Int→Int)(k:Int)(st:Nat):Res where
 sat F H:=((∃l,ImS H g l k st∧VmR l V)∧∀k,IntKind.i32.wrap (V k)=V k)∧F g=none
 own k:=k=g
 lt:=fun⟨⟨⟨l,h,_⟩,_⟩,_⟩ e=>e▸h.im.lt
 no:=fun h e=>e▸h.2
 st:=fun _ _ h1 h2 ⟨⟨⟨l,h,h3⟩,h4⟩,_⟩=>⟨⟨⟨l,h.of (h2 g rfl),h3⟩,h4⟩,h1 g rfl⟩
def Bl(V:Int→Int)(k v:Int):Int→Int:=fun j=>if j=k then v else V j
theorem VmR.up{l:List (Int×Value)}{V:Int→Int}(h:VmR l V)(k v:Int):VmR (upM l k (.int .i32 v)) (Bl V k v):=fun j=>by
 rw[D3];unfold Bl
 split
 ·rfl
 ·exact h j
theorem VmR.ins{l:List (Int×Value)}{V:Int→Int}(h:VmR l V)(k:Int):VmR (Rj l k (.int .i32 0)) V:=fun j=>by
 have hj:=h j
 unfold Rj
 split
 ·exact hj
 ·rename_i hk
  have e:lkM (l++[(k,Value.int .i32 0)]) j=(lkM l j).or (lkM [(k,Value.int .i32 0)] j):=by
   unfold lkM;rw[List.find?_append];cases List.find? (fun p=>p.1==j) l<;>rfl
  rw[e]
  cases h1:lkM l j with
  | some u=>rw[h1] at hj;exact hj
  | none =>
   rw[h1] at hj
   rw[←hj]
   unfold lkM
   simp only[List.find?_cons,List.find?_nil]
   cases k==j<;>rfl
theorem J2{V:Int→Int}(h:∀k,IntKind.i32.wrap (V k)=V k){k v:Int}(hv:IntKind.i32.wrap v=v):∀j,IntKind.i32.wrap (Bl V k v j)=Bl V k v j:=fun j=>by
 unfold Bl;split
 ·exact hv
 ·exact h j
def Pr(nx:List (Int×Int)):List (Int×Value):=nx.map (fun p=>(p.1,.int .i32 p.2))
def nm(g:Nat)(nx:List (Int×Int)):Res:=im g (Pr nx)
def upW:List (Int×Int)→Int→Int→List (Int×Int)
 | [],k,v=>[(k,v)]
 | p::r,k,v=>if p.1==k then (k,v)::r else p::upW r k v
theorem AX:∀(nx:List (Int×Int)) (k v:Int),upM (Pr nx) k (.int .i32 v)=Pr (upW nx k v)
 | [],k,v=>rfl
 | p::r,k,v=>by
  show upM ((p.1,.int .i32 p.2)::Pr r) k (.int .i32 v)=Pr (if p.1==k then (k,v)::r else p::upW r k v)
  unfold upM
  split
  ·rfl
  ·rw[AX r k v];rfl
def mit(r g:Nat)(nx:List (Int×Int))(vis:List Int):Res where
 sat F H:=(It H r g (Pr nx) vis∧r≠g)∧F r=none∧F g=none
 own k:=k=r∨k=g
 lt:=fun⟨⟨h,_⟩,_⟩ e=>by
  rcases e with e|e
  ·obtain⟨es,c,seen,_,_,h3,_⟩:=h
   rw[e];exact(Array.getElem?_eq_some_iff.1 h3).1
  ·rw[e];exact h.im.lt
 no:=fun h e=>by rcases e with e|e<;>rw[e];exact h.2.1;exact h.2.2
 st:=fun _ _ h1 h2 ⟨⟨h,h3⟩,_⟩=>⟨⟨h.of (h2 r (.inl rfl)) (h2 g (.inr rfl)),h3⟩,h1 r (.inl rfl),h1 g (.inr rfl)⟩
section
variable{ops:Array Oper}{op:Op}{d:Nat}{ty:TypeId}{pos:String}{af:Array Edge}{rest:List Oper}{T T' K E:TypeId}{x y z:Operand}{g r st:Nat}{V:Int→Int}{k v:Int}{nx:List (Int×Int)}{vis:List Int}{u:Value}
theorem jvn(kk:∀g,LH P n w0 ops Q X D (vm g (fun _=>0)::L) ((d,.map (some g))::e) rest)(hd:Nat.blt d n.sz=true:=by rfl):LH P n w0 ops Q X D L e (⟨some d,.makeMap T none,ty,pos,af,none⟩::rest):=fun F H hp =>
 LF.chg Av.makeMapB (by rintro _ H' ⟨g,rfl,eg,sg,kg,hb⟩;exact kk g F H' (hp.new (R:=vm g (fun _=>0)) kg ⟨⟨⟨[],hb,fun _=>rfl⟩,fun _=>by show IntKind.i32.wrap 0=0;decide⟩,hp.hin.nope (Nat.le_of_eq eg.symm)⟩ (fun k hk=>by have:k=g:=hk;omega))) hd
theorem jvk(hT:P.underlying T=some (.map K E))(hK:P.underlying K=some (.int .i64))(hz:(P.info? E).bind (·.zero)=some (.int .i32 0))(hm:Tk L (vm g V) M)(hx:ev e x=some (.map (some g)))(hi:ev e z=some (.int .i64 k)):OH P D L e (.lookup T x z false) (.int .i32 (V k)):=fun F H h1 h2 h=>by
 obtain⟨⟨⟨l,h3,h4⟩,_⟩,_⟩:=(hm.ok h).1
 rw[←h4 k];exact Aa.lookup hT hK hz h3 hx hi
theorem Tw.kwv{H H':Heap}(h:Tw g H H'):Kw (vm g V).own H H':=⟨Nat.le_of_eq h.1.symm,fun k _ h2=>h.2 k h2⟩
theorem jvu(hT:P.underlying T=some (.map K E))(hK:P.underlying K=some (.int .i64))(hm:Tk L (vm g V) M)(hx:ev e x=some (.map (some g)))(hi:ev e z=some (.int .i64 k))(hy:ev e y=some (.int .i32 v))(hw:Wr D L .i32 v)
  (kk:LH P n w0 ops Q X D (vm g (Bl V k v)::M) e rest):LH P n w0 ops Q X D L e (⟨none,.mapUpdate T x z y,ty,pos,af,none⟩::rest):=fun F H hp=>by
 obtain⟨⟨⟨l,h3,h4⟩,h5⟩,h6⟩:=hp.at hm
 have h7:=hw F H hp.hin hp.hd hp.ok
 exact LF.chg0 (Av.mapUpdate hT hK h3 hx hi hy) (by rintro _ H' ⟨m,t⟩;exact kk F H' (hp.set (R':=vm g (Bl V k v)) hm t.kwv ⟨⟨⟨_,m,h4.up k v⟩,J2 h5 h7⟩,h6⟩ (fun k h => .inr h)))
theorem jve(hT:P.underlying T=some (.map K E))(hK:P.underlying K=some (.int .i64))(hz:(P.info? E).bind (·.zero)=some (.int .i32 0))(hm:Tk L (vm g V) M)(hx:ev e x=some (.map (some g)))(hi:ev e z=some (.int .i64 k))
  (kk:∀(u:Value) (st:Nat),LH P n w0 ops Q X D (vme g V k st::M) ((d,.tuple #[u,.int .i64 st])::e) rest) (hd:Nat.blt d n.sz=true:=by rfl):LH P n w0 ops Q X D L e (⟨some d,.mapEntry T x z,ty,pos,af,none⟩::rest):=fun F H hp=>by
 obtain⟨⟨⟨l,h3,h4⟩,h5⟩,h6⟩:=hp.at hm
 exact LF.chg (Av.mapEntry hT hK hz h3 hx hi) (by rintro _ H' ⟨st,rfl,m,t⟩;exact kk _ st F H' (hp.set (R':=vme g V k st) hm t.kwv ⟨⟨⟨_,m,h4.ins k⟩,h5⟩,h6⟩ (fun k h => .inr h))) hd
theorem jvs(hm:Tk L (vme g V k st) M)(hx:ev e x=some (.map (some g)))(hi:ev e z=some (.int .i64 st))(hy:ev e y=some (.int .i32 v))(hw:Wr D L .i32 v)
  (kk:LH P n w0 ops Q X D (vm g (Bl V k v)::M) e rest):LH P n w0 ops Q X D L e (⟨none,.entryStore T x z y,ty,pos,af,none⟩::rest):=fun F H hp=>by
 obtain⟨⟨⟨l,h3,h4⟩,h5⟩,h6⟩:=hp.at hm
 have h7:=hw F H hp.hin hp.hd hp.ok
 exact LF.chg0 (Av.entryStore h3 hx hi hy) (by rintro _ H' ⟨m,t⟩;exact kk F H' (hp.set (R':=vm g (Bl V k v)) hm (t.kwv (V:=V)) ⟨⟨⟨_,m,h4.up k v⟩,J2 h5 h7⟩,h6⟩ (fun k h => .inr h)))
theorem jvw(hm:Tk L (vm g V) M)(kk:(∀k,IntKind.i32.wrap (V k)=V k)→LH P n w0 ops Q X D L e rest):LH P n w0 ops Q X D L e rest:=fun F H hp=>kk (hp.at hm).1.2 F H hp
theorem cvw{c:Code}(hm:Tk L (vm g V) M)(kk:(∀k,IntKind.i32.wrap (V k)=V k)→CH P n w0 Q X D L e c):CH P n w0 Q X D L e c:=fun F H hp=>kk (hp.at hm).1.2 F H hp
theorem jnn(kk:∀g,LH P n w0 ops Q X D (nm g []::L) ((d,.map (some g))::e) rest)(hd:Nat.blt d n.sz=true:=by rfl):LH P n w0 ops Q X D L e (⟨some d,.makeMap T none,ty,pos,af,none⟩::rest):=jmm kk hd
theorem jnu(hT:P.underlying T=some (.map K E))(hK:P.underlying K=some (.int .i64))(hm:Tk L (nm g nx) M)(hx:ev e x=some (.map (some g)))(hi:ev e z=some (.int .i64 k))(hy:ev e y=some (.int .i32 v))
 (kk:LH P n w0 ops Q X D (nm g (upW nx k v)::M) e rest):LH P n w0 ops Q X D L e (⟨none,.mapUpdate T x z y,ty,pos,af,none⟩::rest):=jup hT hK hm hx hi hy (AX nx k v) kk
theorem jri(hT:P.underlying T=some (.map K E))(hm:Tk L (nm g nx) M)(hx:ev e x=some (.map (some g)))(kk:∀r,LH P n w0 ops Q X D (mit r g nx []::M) ((d,.pointer (some ⟨r,0,none⟩))::e) rest)(hd:Nat.blt d n.sz=true:=by rfl):LH P n w0 ops Q X D L e (⟨some d,.range T x,ty,pos,af,none⟩::rest):=fun F H hp=>by
 obtain⟨h3,h4⟩:=hp.at hm
 refine LF.chg (Av.range hT h3 hx) ?_ hd
 rintro _ H' ⟨rfl,h5,h6,h7⟩
 have hgl:=h3.lt
 refine kk H.size F H' (hp.set (R':=mit H.size g nx []) hm ⟨by omega,fun k h1 _=>h7 k h1⟩ ⟨⟨h5,by omega⟩,hp.hin.nope (Nat.le_refl _),h4⟩ (fun k hk=>?_))
 rcases hk with hk|hk
 ·exact .inl (by omega)
 ·exact .inr hk
theorem jni(hk:Tk L (mit r g nx vis) M)(hx:ev e x=some (.pointer (some ⟨r,0,none⟩)))
  (k1:(∀p∈nx,p.1∈vis)→LH P n w0 ops Q X D (mit r g nx vis::M) ((d,.tuple #[.bool false])::e) rest)
  (k2:∀k v,(k,v)∈nx→k∉vis→LH P n w0 ops Q X D (mit r g nx (vis++[k])::M) ((d,.tuple #[.bool true,.int .i64 k,.int .i32 v])::e) rest) (hd:Nat.blt d n.sz=true:=by rfl) :
  LH P n w0 ops Q X D L e (⟨some d,.next x false,ty,pos,af,none⟩::rest):=fun F H hp=>by
 obtain⟨⟨h1,h2⟩,h3,h4⟩:=hp.at hk
 refine LF.chg (Av.next h2 h1 hx) ?_ hd
 rintro _ H' (⟨rfl,h5,rfl⟩|⟨k,w,rfl,h5,h6,h7,h8⟩)
 ·refine k1 (fun p hp=>h5 p.1 ?_) F H' (hp.set (R':=mit r g nx vis) hk (Kw.refl _ _) ⟨⟨h1,h2⟩,h3,h4⟩ (fun k h => .inr h))
  exact List.mem_map.2 ⟨(p.1,.int .i32 p.2),List.mem_map.2 ⟨p,hp,rfl⟩,rfl⟩
 ·obtain⟨p,h9,h10⟩:=List.mem_map.1 h5
  injection h10 with h10 h11
  subst h10;subst h11
  exact k2 p.1 p.2 h9 h6 F H' (hp.set (R':=mit r g nx (vis++[p.1])) hk ⟨Nat.le_of_eq h8.1.symm,fun k _ h2=>h8.2 k (fun e=>h2 (.inl e))⟩ ⟨⟨h7,h2⟩,h3,h4⟩ (fun k h => .inr h))
theorem jei(hk:Tk L (mit r g nx (vis++[k])) M)(hi:(k,v)∈nx)(hx:ev e x=some (.pointer (some ⟨r,0,none⟩))):OH P D L e (.entry x) (.tuple #[.int .i64 k,.int .i32 v]):=fun F H h1 h2 h3=>by
 obtain⟨⟨h4,_⟩,_⟩:=(hk.ok h3).1
 exact Aa.entry h4 (List.mem_map.2 ⟨_,hi,rfl⟩) hx
end
end Go.JE
namespace Go.JE
variable{P:Program}{D D0:List Dt}{L M Ls L0:List Res}{e:Env}{X:Cx}{n:Fs}{w0:World}{Q:Exit→Act→World→Prop}{F:PH}{H:Heap}
abbrev Chn:=List PanicEntry
def Ct2(P:Program)(f:FuncId)(args:Array Value)(H:Heap)(R:Value→Heap→Prop)(E:Chn→Heap→Prop):Prop :=
 ∀w,w.heap=H→Calls P f args w fun x w'=>(w'.os=w.os∧w'.tape=w.tape∧w'.output=w.output)∧((∃v,x = .returned v∧R v w'.heap)∨∃c,x = .panicked c∧E c w'.heap)
def BQ3(P:Program)(fn:Func)(w0:World)(R:Value→Heap→Prop)(E:Chn→Heap→Prop):Exit→Act→World→Prop :=
 bodyPost P fn fun x w'=>(w'.os=w0.os∧w'.tape=w0.tape∧w'.output=w0.output)∧((∃v,x = .returned v∧R v w'.heap)∨∃c,x = .panicked c∧E c w'.heap)
theorem Ct2.mono{f:FuncId}{args:Array Value}{R R':Value→Heap→Prop}{E E':Chn→Heap→Prop}(h:Ct2 P f args H R E)(hr:∀v H',R v H'→R' v H')(he:∀c H',E c H'→E' c H'):Ct2 P f args H R' E' :=
 fun w hw=>(h w hw).mono fun _ _ ⟨a,b⟩=>⟨a,b.imp (fun⟨v,x,y⟩=>⟨v,x,hr _ _ y⟩) (fun⟨c,x,y⟩=>⟨c,x,he _ _ y⟩)⟩
theorem Ct2.enter{f:FuncId}{fn:Func}{c:Code}{R:Value→Heap→Prop}{E:Chn→Heap→Prop}{args:List Value}{n:Nat}(hf:P.funcs[f]? = some fn)(hb:fn.body=some c)(hn:fn.ntmps=n)(ha:Nat.ble args.length n=true)
  (h:∀w0:World,w0.heap=H→CF P ⟨n,[]⟩ w0 (BQ3 P fn w0 R E) (Gv 0 args) c H):Ct2 P f args.toArray H R E:=by
 intro w hw
 refine calls_of_wp hf hb ?_
 have ha':args.length≤n:=by simpa[Nat.ble_eq] using ha
 refine h w hw _ w ⟨?_,rfl,?_⟩ ⟨hw,rfl,rfl,rfl⟩
 ·simp[hn];omega
 ·intro t v hv
  obtain⟨i,h1,h2⟩:=Mw args 0 t v hv
  have hi:i<args.length:=(List.getElem?_eq_some_iff.1 h2).1
  have e1:t=i:=by omega
  subst e1
  simp only[Array.getD_eq_getD_getElem?]
  rw[Array.getElem?_append_left (by simpa using hi)]
  simp[h2]
def Px(E:Chn→Prop)(X:Cx):Chn→Heap→Prop:=fun c H=>E c∧Kw X.W X.H H∧InH X.F H
def Trx(P:Program)(f:FuncId)(args:Array Value)(D0:List Dt)(L0:List Res){ι:Type}(val:ι→Value)(dr:ι→List Dt)(lr:Nat→ι→List Res)(E:Chn→Prop):Prop :=
 ∀F H,InH F H→AllD F D0→Ok F H L0→Ct2 P f args H (fun v H'=>∃i F',v=val i∧∀B,B≤H.size→Hp ⟨Own L0,H,F⟩ (dr i) (lr B i) F' H') (Px E ⟨Own L0,H,F⟩)
section
variable{f:FuncId}{fn:Func}{c:Code}{ι:Type}{val:ι→Value}{dr:ι→List Dt}{lr:Nat→ι→List Res}{E E':Chn→Prop}
def RQX(P:Program)(fn:Func)(w0:World)(X:Cx){ι:Type}(val:ι→Value)(dr:ι→List Dt)(lr:Nat→ι→List Res)(E:Chn→Prop):Exit→Act→World→Prop:=BQ3 P fn w0 (fun v H'=>∃i F',v=val i∧∀B,B≤X.n→Hp X (dr i) (lr B i) F' H') (Px E X)
theorem Ni{args:List Value}{m:Nat}(hf:P.funcs[f]? = some fn)(hb:fn.body=some c)(hn:fn.ntmps=m)(ha:Nat.ble args.length m=true)
  (h:∀(w0:World) (X:Cx),CH P ⟨m,[]⟩ w0 (RQX P fn w0 X val dr lr E) X D0 L0 (Gv 0 args) c):Trx P f args.toArray D0 L0 val dr lr E:=fun F H hin hd ho =>
 Ct2.enter hf hb hn ha fun w0 hw=>h w0 ⟨Own L0,H,F⟩ F H ⟨PH.ext.refl F,hin,Kw.refl _ _,hd,ho,fun k hk => .inr hk⟩
theorem EA{m:Nat}(h:QH ⟨m,[]⟩ w0 (RQ2 P fn w0 X val dr lr) X D L e .ret):QH ⟨m,[]⟩ w0 (RQX P fn w0 X val dr lr E) X D L e .ret:=fun F H hp a w hf hw=>by
 obtain⟨h1,v,h2,v',h3,h4,h5,h6,h7⟩:=h F H hp a w hf hw
 exact⟨h1,v,h2,⟨h4,h5,h6⟩,.inl ⟨v',h3,h7⟩⟩
theorem Nh{m:Nat}(h:QH ⟨m,[]⟩ w0 (RQ2 P fn w0 X val dr lr) X D L e .normal):QH ⟨m,[]⟩ w0 (RQX P fn w0 X val dr lr E) X D L e .normal:=fun F H hp a w hf hw=>by
 obtain⟨h1,v,h2,v',h3,h4,h5,h6,h7⟩:=h F H hp a w hf hw
 exact⟨h1,v,h2,⟨h4,h5,h6⟩,.inl ⟨v',h3,h7⟩⟩
theorem B7{m:Nat}{ch:Chn}(h:E ch):QH ⟨m,[]⟩ w0 (RQX P fn w0 X val dr lr E) X D L e (.panic ch):=fun F H hp a w hf hw =>
 ⟨hf.defers,⟨hw.os,hw.tape,hw.output⟩,.inr ⟨ch,rfl,h,hw.heap▸hp.hw,hw.heap▸hp.hin.down hp.hx.1⟩⟩
theorem Trx.run{args:Array Value}{F:PH}{H:Heap}(h:Trx P f args D0 L0 val dr lr E)(hp:Hp X D L F H)(hd:Sd D L D0)(hk:Tks L L0 M):Ct2 P f args H (fun v H'=>∃i F',v=val i∧Hp X (dr i++D) (lr X.n i++M) F' H') (fun c H'=>E c∧Hp X D M F H') :=
 (h F H hp.hin (hd F H hp.hin hp.hd hp.ok) (hk.ok hp.ok).1).mono (fun v H' ⟨i,F',h1,h2⟩=>⟨i,F',h1,(fun h2=>hp.frame hk h2.hx h2.hin h2.hw h2.hd h2.ok h2.ge) (h2 X.n hp.hw.1)⟩)
  (fun c H' ⟨h1,h2,h3⟩=>⟨h1,hp.frame hk (PH.ext.refl F) h3 h2 (E:=[]) (Ls':=[]) trivial trivial (fun k h9=>h9.elim)⟩)
variable{ops:Array Oper}{op:Op}{d:Nat}{ty:TypeId}{pos:String}{af:Array Edge}{rest:List Oper}{v:Value}{g:Operand}{xs:List Operand}{vs cs:List Value}{ts:Array TypeId}{Dn:ι→List Dt}{Ln:ι→List Res}
theorem LF.callx{args:Array Value}{R:Value→Heap→Prop}{Ep:Chn→Heap→Prop}(h:Iv P e op H f args)(hc:Ct2 P f args H R Ep)(K:∀v H',R v H'→LF P n w0 ops Q ((d,v)::e) rest H')(Kp:∀c H',Ep c H'→PF n w0 Q e (.panic c) H')(hd:Nat.blt d n.sz=true:=by rfl) :
  LF P n w0 ops Q e (⟨some d,op,ty,pos,af,none⟩::rest) H:=by
 intro a w hf hw
 refine wpList_plain rfl fun K' hK'=>?_
 unfold Oper.wp
 rw[h a.eval _ w rfl (fun x u hx=>hf.ev hx) hw.heap,Oper.upon_enter]
 refine(hc w hw.heap).mono fun x w' ⟨⟨h1,h2,h3⟩,hR⟩=>?_
 rcases hR with⟨v,rfl,hR⟩|⟨c,rfl,hR⟩
 ·exact hK' _ _ (K _ _ hR _ _ (hf.put hd v) ⟨rfl,h1.trans hw.os,h2.trans hw.tape,h3.trans hw.output⟩)
 ·exact Kp _ _ hR _ _ hf ⟨rfl,h1.trans hw.os,h2.trans hw.tape,h3.trans hw.output⟩
theorem jcx(hE:Ent P f)(hf:ev e g=some (.func (.func f) #[] cs.toArray))(hl:evl e xs=some vs)(hT:Trx P f (vs++cs).toArray D0 L0 val dr lr E)(hd:Sd D L D0)(hk:Tks L L0 M)(hp:∀i,Ap (dr i) D (Dn i))(hq:∀i,Ap (lr X.n i) M (Ln i))
  (k:∀i,LH P n w0 ops Q X (Dn i) (Ln i) ((d,val i)::e) rest) (kp:∀c,E c→QH n w0 Q X D M e (.panic c)) (hd1:Nat.blt d n.sz=true:=by rfl):LH P n w0 ops Q X D L e (⟨some d,.call { callee := .value g,args:=xs.toArray,argTypes:=ts },ty,pos,af,none⟩::rest):=fun F H h =>
 LF.callx (Iv.fnc hE hf hl) (hT.run h hd hk) (by rintro _ H' ⟨i,F',rfl,h2⟩;exact k i F' H' (hp i▸hq i▸h2)) (fun c H' ⟨h1,h2⟩=>kp c h1 F H' h2) hd1
theorem Re{T K E9:TypeId}{u v:Value}{x z:Operand}{g:Nat}{l:List (Int×Value)}{k:Int}(hT:P.underlying T=some (.map K E9))(hK:P.underlying K=some (.int .i64))(hz:(P.info? E9).bind (·.zero)=some u)(hm:Tk L (im g l) M)(hx:ev e x=some (.map (some g)))(hi:ev e z=some (.int .i64 k))(hl:(lkM l k).getD u=v):OH P D L e (.lookup T x z true) (.tuple #[v,.bool (lkM l k).isSome]):=by
 rw[←hl];exact NM hT hK hz hm hx hi
theorem NI{T:TypeId}{x:Operand}{dsc:TypeDesc}(hT:P.underlying T=some dsc)(hn:(match dsc with | .interface _=>true|_=>false)=false)(hx:ev e x=some v):OH P D L e (.makeInterface T x) (.iface T v):=fun F H _ _ _ ρ o w ho hev _=>by
 simp only[execOp,ho,hev _ _ hx,Instr.makeInterface,Sem.run_bind,run_underlying hT,Result.andThen_ok]
 cases dsc<;>first|(simp at hn;done)|rfl
theorem LF.pan{T:TypeId}{x:Operand}{H:Heap}(hx:ev e x=some (.iface T v))(K:PF n w0 Q e (.panic [{ v := .iface T v,recovered:=false }]) H):LF P n w0 ops Q e (⟨none,.panic x,ty,pos,af,none⟩::rest) H:=by
 intro a w hf hw
 refine wpList_plain rfl fun K' hK'=>?_
 unfold Oper.wp
 have:(execOp a.eval ⟨none,.panic x,ty,pos,af,none⟩).run P w = .halt (.panic (.iface T v)) w:=by
  simp only[execOp,hf.ev hx,Instr.panic,goPanic];rfl
 rw[this,Oper.upon_panic]
 exact K a w hf hw
theorem NF{T:TypeId}{x:Operand}(hx:ev e x=some (.iface T v))(k:QH n w0 Q X D L e (.panic [{ v := .iface T v,recovered:=false }])):LH P n w0 ops Q X D L e (⟨none,.panic x,ty,pos,af,none⟩::rest):=fun F H hp=>LF.pan hx (k F H hp)
end
theorem SE{f:FuncId}{fn:Func}{args:List Value}{id d m:Nat}{ty:TypeId}{pos:String}{af:Array Edge}{c:Code}{R:Value→Heap→Prop}{w:World}{pv:Value}(hf:P.funcs[f]? = some fn)
  (hb:fn.body=some (.seq (.region id #[⟨some d,.call { callee := .builtin .recover,args:=#[],argTypes:=#[] },ty,pos,af,none⟩] false) c)) (hn:fn.ntmps=m) (ha:Nat.ble args.length m=true) (hd:Nat.blt d m=true)
  (h:CF P ⟨m,[]⟩ w (BQ P fn w R) ((d,pv)::Gv 0 args) c w.heap) :
  CallsD P f args.toArray (.panicking [{ v:=pv,recovered:=false }]) w fun x u' w'=>u' = .panicking [{ v:=pv,recovered:=true }]∧∃v,x = .returned v∧w'.os=w.os∧w'.tape=w.tape∧w'.output=w.output∧R v w'.heap:=by
 refine callsD_of_wpS hf hb fun c₀ cs hu=>wpS_seq (wpS_region ?_)
 have hl:List.range (#[(⟨some d,.call { callee := .builtin .recover,args:=#[],argTypes:=#[] },ty,pos,af,none⟩:Oper)]).size=[0]:=rfl
 rw[hl]
 have ha':args.length≤m:=by simpa[Nat.ble_eq] using ha
 have hfr:Fr ⟨m,[]⟩ (Gv 0 args) { tmps:=args.toArray++Array.replicate (fn.ntmps-args.toArray.size) undef,defers:=[] }:=by
  refine⟨by simp[hn];omega,rfl,fun t v hv=>?_⟩
  obtain⟨i,h1,h2⟩:=Mw args 0 t v hv
  have hi:i<args.length:=(List.getElem?_eq_some_iff.1 h2).1
  have e1:t=i:=by omega
  subst e1
  simp only[Array.getD_eq_getD_getElem?]
  rw[Array.getElem?_append_left (by simpa using hi)]
  simp[h2]
 have hrun:∀ρ,(execOp ρ (⟨some d,.call { callee := .builtin .recover,args:=#[],argTypes:=#[] },ty,pos,af,none⟩:Oper)).run P w = .ok .recover w:=fun ρ=>by
  simp[execOp,resolve,invoke,builtin]
 have hrec:recoverD (c₀::cs)=some (pv,{ c₀ with mode := .panicking [{ v:=pv,recovered:=true }] }::cs):=by simp[recoverD,hu]
 simp only[wpOpsS,List.getElem?_toArray,List.getElem?_cons_zero,Region.wanted,if_true,hrun,hrec]
 have h2:=h _ _ (hfr.put hd pv) ⟨rfl,rfl,rfl,rfl⟩
 refine wpS_of_wp (Code.wp_mono ?_ h2)
 intro x a' w' hq
 cases x with
 | normal=>obtain⟨h1,v,h3,h4⟩:=hq;exact⟨h1,.panicking [{ v:=pv,recovered:=true }],rfl,v,h3,rfl,v,rfl,by obtain⟨_,e,h5⟩:=h4;injection e with e;subst e;exact h5⟩
 | ret=>obtain⟨h1,v,h3,h4⟩:=hq;exact⟨h1,.panicking [{ v:=pv,recovered:=true }],rfl,v,h3,rfl,v,rfl,by obtain⟨_,e,h5⟩:=h4;injection e with e;subst e;exact h5⟩
 | panic ch=>obtain⟨_,_,e,_⟩:=hq;cases e
 | exit i=>exact hq
 | goto l=>exact hq
 | outgrown=>obtain⟨_,e,_⟩:=hq;cases e
theorem PF.panD{fn:Func}{m f:Nat}{lb:Array Value}{R:Value→Heap→Prop}{RH:Heap→Prop}{v pv:Value}(hE:Ent P f)(hc:∀w:World,w.heap=H→CallsD P f lb (.panicking [{ v:=pv,recovered:=false }]) w fun x u' w'=>u' = .panicking [{ v:=pv,recovered:=true }]∧∃v',x = .returned v'∧w'.os=w.os∧w'.tape=w.tape∧w'.output=w.output∧RH w'.heap)
  (hr:∀(a:Act) (w:World),Fr ⟨m,[{ target := .fn (.func f) lb,args:=#[] }]⟩ e a→RH w.heap→(results fn a.tmps).run P w = .ok v w) (hR:∀H',RH H'→R v H'):PF ⟨m,[{ target := .fn (.func f) lb,args:=#[] }]⟩ w0 (BQD P fn w0 R) e (.panic [{ v:=pv,recovered:=false }]) H:=by
 intro a w hf hw
 show Leaves P fn a.tmps _ a.defers (.panicking [{ v:=pv,recovered:=false }]) w
 rw[hf.defers]
 refine leaves_cons (by simp) (Z1 hE w) ((hc w hw.heap).mono ?_)
 rintro x u' w' ⟨rfl,v',rfl,h1,h2,h3,h4⟩
 exact⟨v,hr a w' hf h4,v,rfl,h1.trans hw.os,h2.trans hw.tape,h3.trans hw.output,hR _ h4⟩
theorem NT{T T' T2:TypeId}{x:Operand}{v:Value}(hT:P.underlying T=some (.interface #[]))(hx:ev e x=some (.iface T2 v)):OH P D L e (.binOp .eql T x (.const .nilIface) T') (.bool false):=fun F H _ _ _ ρ o w ho hev _=>by
 have h1:∀d,(Op.equalIn (d+1) T (.iface T2 v) .nilIface).run P w = .ok false w:=fun d=>by
  simp only[Op.equalIn,Sem.run_bind,run_underlying hT,Result.andThen_ok];rfl
 have h2:(Op.equal T (.iface T2 v) .nilIface).run P w = .ok false w:=h1 9999
 have h3:∀d,(Op.eqGuardIn (d+1) T (.iface T2 v) .nilIface).run P w = .ok false w:=fun d=>by
  simp only[Op.eqGuardIn,Sem.run_bind,run_underlying hT,Result.andThen_ok];rfl
 have hy:ρ (.const .nilIface) = .nilIface:=hev _ _ rfl
 simp only[execOp,ho,hev _ _ hx,hy,eqGuard,binOp]
 simp[h2,h3]
class PanTo (Q:Exit→Act→World→Prop) (Q0:outParam (Exit→Act→World→Prop)):Prop where
 thru:∀c a w,Q0 (.panic c) a w→Q (.panic c) a w
section
variable{f:FuncId}{fn:Func}{c:Code}{ι:Type}{val:ι→Value}{dr:ι→List Dt}{lr:Nat→ι→List Res}{E E2:Chn→Prop}{Q0:Exit→Act→World→Prop}
instance:PanTo (RQX P fn w0 X val dr lr E) (RQX P fn w0 X val dr lr E):=⟨fun _ _ _ h=>h⟩
instance{k:Act→World→Prop}[h:PanTo Q Q0]:PanTo (Exit.then k Q) Q0:=⟨fun c a w h9=>h.thru c a w h9⟩
instance{i:Nat}[h:PanTo Q Q0]:PanTo (Exit.inBlock i Q) Q0:=⟨fun c a w h9=>h.thru c a w h9⟩
instance[h:PanTo Q Q0]:PanTo (Exit.noGoto Q) Q0:=⟨fun c a w h9=>h.thru c a w h9⟩
instance{κ:Type}{S:κ→Jn}[h:PanTo Q Q0]:PanTo (QJn n w0 X S Q) Q0:=⟨fun c a w h9 => .inr ⟨by simp,h.thru c a w h9⟩⟩
instance{m:Nat}{w1:World}{l:List Oper}{z:Bool}{X2:Cx}{FS:PH}{Ls:List Res}{is:Od}[h:PanTo Q (RQX P fn w0 X val dr lr E)]:PanTo (YQ P ⟨m,[]⟩ w1 l Q z X2 FS Ls is) (RQX P fn w0 X val dr lr E):=⟨fun c a w h9=>fun a' e=>h.thru c a' w (by
 obtain⟨h1,h2⟩:a.defers=[]∧_:=h9
 exact⟨e.trans h1,h2⟩)⟩
theorem xpc{m:Nat}{ch:Chn}[hP:PanTo Q (RQX P fn w0 X val dr lr E)](h:E ch):QH ⟨m,[]⟩ w0 Q X D L e (.panic ch):=fun F H hp a w hf hw=>hP.thru _ _ _ (B7 h F H hp a w hf hw)
variable{ops:Array Oper}{d m:Nat}{ty:TypeId}{pos:String}{af:Array Edge}{rest:List Oper}{g:Operand}{xs:List Operand}{vs cs:List Value}{ts:Array TypeId}{κ:Type}{val':κ→Value}{dr':κ→List Dt}{lr':Nat→κ→List Res}{Dn:κ→List Dt}{Ln:κ→List Res}
theorem jcy[hP:PanTo Q (RQX P fn w0 X val dr lr E2)](hE:Ent P f)(hf:ev e g=some (.func (.func f) #[] cs.toArray))(hl:evl e xs=some vs)(hT:Trx P f (vs++cs).toArray D0 L0 val' dr' lr' E)(hd:Sd D L D0)(hk:Tks L L0 M)(hp:∀i,Ap (dr' i) D (Dn i))(hq:∀i,Ap (lr' X.n i) M (Ln i))
  (kp:∀c,E c→E2 c) (k:∀i,LH P ⟨m,[]⟩ w0 ops Q X (Dn i) (Ln i) ((d,val' i)::e) rest) (hd1:Nat.blt d (Fs.mk m []).sz=true:=by rfl):LH P ⟨m,[]⟩ w0 ops Q X D L e (⟨some d,.call { callee := .value g,args:=xs.toArray,argTypes:=ts },ty,pos,af,none⟩::rest) :=
 jcx hE hf hl hT hd hk hp hq k (fun c hc=>xpc (kp c hc)) hd1
end
end Go.JE
namespace Go.JE
variable{P:Program}{D D0:List Dt}{L M Ls L0:List Res}{e:Env}{X:Cx}{n:Fs}{w0:World}{Q:Exit→Act→World→Prop}
def TrK(P:Program)(f:FuncId)(args:Array Value)(pv:Value)(D0:List Dt)(L0:List Res){ι:Type}(val:ι→Value)(dr:ι→List Dt)(lr:Nat→ι→List Res):Prop :=
 ∀F H,InH F H→AllD F D0→Ok F H L0→∀w:World,w.heap=H→CallsD P f args (.panicking [{ v:=pv,recovered:=false }]) w fun x u' w'=>u' = .panicking [{ v:=pv,recovered:=true }]∧∃v',x = .returned v'∧w'.os=w.os∧w'.tape=w.tape∧w'.output=w.output∧∃i F',v'=val i∧∀B,B≤H.size→Hp ⟨Own L0,H,F⟩ (dr i) (lr B i) F' w'.heap
theorem MQ{f:FuncId}{fn:Func}{args:List Value}{id d m:Nat}{ty:TypeId}{pos:String}{af:Array Edge}{c:Code}{pv:Value}{ι:Type}{val:ι→Value}{dr:ι→List Dt}{lr:Nat→ι→List Res}(hf:P.funcs[f]? = some fn)
  (hb:fn.body=some (.seq (.region id #[⟨some d,.call { callee := .builtin .recover,args:=#[],argTypes:=#[] },ty,pos,af,none⟩] false) c)) (hn:fn.ntmps=m) (ha:Nat.ble args.length m=true) (hd:Nat.blt d m=true)
  (h:∀(w0:World) (X:Cx),CH P ⟨m,[]⟩ w0 (RQ2 P fn w0 X val dr lr) X D0 L0 ((d,pv)::Gv 0 args) c):TrK P f args.toArray pv D0 L0 val dr lr:=fun F H hin hd0 ho w hw=>by
 subst hw
 exact SE hf hb hn ha hd (h w ⟨Own L0,w.heap,F⟩ F w.heap ⟨PH.ext.refl F,hin,Kw.refl _ _,hd0,ho,fun k hk => .inr hk⟩)
theorem NB{T T':TypeId}{x:Operand}{dsc:TypeDesc}{v:Value}(hT:P.underlying T'=some dsc)(hn:(match dsc with | .interface _=>true|_=>false)=false)(hx:ev e x=some (.iface T' v)):OH P D L e (.typeAssert x T T' true) (.tuple #[v,.bool true]):=fun F H _ _ _ ρ o w ho hev _=>by
 simp only[execOp,ho,hev _ _ hx,Instr.typeAssert,Sem.run_bind,run_underlying hT,Result.andThen_ok]
 cases dsc<;>first|(simp at hn;done)|(simp<;>rfl)|rfl
section
variable{f:FuncId}{fn:Func}{c:Code}{ι κ:Type}{val:ι→Value}{dr:ι→List Dt}{lr:Nat→ι→List Res}{val':κ→Value}{dr':κ→List Dt}{lr':Nat→κ→List Res}{Dn:κ→List Dt}{Ln:κ→List Res}{E:Chn→Prop}
instance:PanTo (RQD P fn w0 X val dr lr) (RQD P fn w0 X val dr lr):=⟨fun _ _ _ h=>h⟩
variable{ops:Array Oper}{d m:Nat}{ty:TypeId}{pos:String}{af:Array Edge}{rest:List Oper}{g:Operand}{xs:List Operand}{vs cs:List Value}{ts:Array TypeId}{df:Deferred}
theorem Rg[hP:PanTo Q (RQD P fn w0 X val dr lr)](hE:Ent P f)(hf:ev e g=some (.func (.func f) #[] cs.toArray))(hl:evl e xs=some vs)(hT:Trx P f (vs++cs).toArray D0 L0 val' dr' lr' E)(hd:Sd D L D0)(hk:Tks L L0 M)(hp:∀i,Ap (dr' i) D (Dn i))(hq:∀i,Ap (lr' X.n i) M (Ln i))
  (kp:∀c,E c→QH ⟨m,[df]⟩ w0 (RQD P fn w0 X val dr lr) X D M e (.panic c)) (k:∀i,LH P ⟨m,[df]⟩ w0 ops Q X (Dn i) (Ln i) ((d,val' i)::e) rest) (hd1:Nat.blt d (Fs.mk m [df]).sz=true:=by rfl):LH P ⟨m,[df]⟩ w0 ops Q X D L e (⟨some d,.call { callee := .value g,args:=xs.toArray,argTypes:=ts },ty,pos,af,none⟩::rest) :=
 jcx hE hf hl hT hd hk hp hq k (fun c hc F H h a w hf hw=>hP.thru _ _ _ (kp c hc F H h a w hf hw)) hd1
theorem Rc{f':Nat}{lb:Array Value}{p q r g g' g'':Nat}{ty ty' ty'' T T' T'':TypeId}{v v' v'' u u' u'' pv:Value}{N:List Res}(hr:fn.results=#[.cell p ty,.cell q ty',.cell r ty''])(hv:lk e p=some (.pointer (some ⟨g,0,none⟩)))(hv':lk e q=some (.pointer (some ⟨g',0,none⟩)))(hv'':lk e r=some (.pointer (some ⟨g'',0,none⟩)))
  (hK:TrK P f' lb pv [] [bx g T [v],bx g' T' [v'],bx g'' T'' [v'']] (fun _:Unit => .tuple #[]) (fun _=>[]) (fun _ _=>[bx g T [u],bx g' T' [u'],bx g'' T'' [u'']])) (hk:Tks L [bx g T [v],bx g' T' [v'],bx g'' T'' [v'']] N)
  (hO:One P ty) (hO':One P ty') (hO'':One P ty'') (hE:Ent P f') (i:ι) (hm : .tuple #[u,u',u'']=val i) (hd:Sd D (bx g T [u]::bx g' T' [u']::bx g'' T'' [u'']::N) (dr i)) (hk2:∀B,B≤X.n→Tks (bx g T [u]::bx g' T' [u']::bx g'' T'' [u'']::N) (lr B i) M) :
  QH ⟨m,[{ target := .fn (.func f') lb,args:=#[] }]⟩ w0 (RQD P fn w0 X val dr lr) X D L e (.panic [{ v:=pv,recovered:=false }]):=fun F H hp =>
 PF.panD (RH:=fun H'=>∃F',Hp X D (bx g T [u]::bx g' T' [u']::bx g'' T'' [u'']::N) F' H') (v := .tuple #[u,u',u'']) hE
  (fun w hw=>(hK F H hp.hin trivial (hk.ok hp.ok).1 w hw).mono (by
   rintro x uu w' ⟨h1,v',h2,h3,h4,h5,_,F',_,h6⟩
   have h7:=h6 X.n hp.hw.1
   have h8:=hp.frame hk h7.hx h7.hin h7.hw h7.hd h7.ok h7.ge
   exact⟨h1,v',h2,h3,h4,h5,F',h8⟩))
  (fun a w hf ⟨F',h⟩=>L4 hr _ w (hf.get p _ hv) hO (by rw[Jp];exact(h.at k0).1.hc rfl) (hf.get q _ hv') hO' (by rw[Jp];exact(h.at k1).1.hc rfl) (hf.get r _ hv'') hO'' (by rw[Jp];exact(h.at k2).1.hc rfl))
  (fun H' ⟨F',h⟩=>⟨i,F',hm,fun B hB=>h.sub hd (hk2 B hB)⟩)
theorem NH{T E:TypeId}{x y:Operand}{z:Value}{bytes k9:Nat}{I J:Int}{α:Type}[Inhabited α]{r:Rp α}{a:α}(hT:P.underlying T=some (.slice E))(hE:(P.info? E).map (fun i=>(i.zero,i.size,i.bytes))=some (some z,r.sz,bytes))(hz:z.cells.size=r.sz)(hs:0<r.sz)
  (hx:ev e x=some (.int .i64 I)) (hy:ev e y=some (.int .i64 J)) (hI:I=k9) (hJ:J=k9) (h1:bytes*k9≤281474976710656∧k9≤140737488355328) (hok:∀F,r.ok F a (fun j=>z.cells.getD j undef))
  (k:∀g,LH P n w0 ops Q X D (gl X.n r E (.slice (some ⟨g,0,none⟩) k9 k9) (List.replicate k9 a)::L) ((d,.slice (some ⟨g,0,none⟩) k9 k9)::e) rest) (hd:Nat.blt d n.sz=true:=by rfl):LH P n w0 ops Q X D L e (⟨some d,.makeSlice T x y,ty,pos,af,none⟩::rest):=fun F H hp =>
 LF.chg (Av.makeN (F:=F) (r:=r) (n:=k9) (a:=a) hT hE hz hs hx hy hI hJ h1.1 h1.2 (hok F)) (by rintro _ H' ⟨g,rfl,eg,sg,kg,hb⟩;exact k g F H' (hp.newG kg hb)) hd
end
end Go.JE
namespace Go.Proofs.YtmfkkodnghambaaGreat
open Go.JE
theorem Be.S_Block{Γ:List Dt}{L:List Res}{m:D.Tg3}{x:Int}(h:Wr Γ L .i64 x):Go.JE.PO Γ L Be m 0 [.int .i64 x] { m with Block:=x }:=fun F H a b c f hf =>
 ⟨⟨rfl,h F H a b c⟩,⟨hf.2.1.1,hf.2.1.2⟩,((rL (rI .i64)).ext (fun i hi=>by rw[show i=0 from Nat.lt_one_iff.1 hi];rfl) hf.2.2.1),((rL (rI .i64)).ext (fun i hi=>by rw[show i=0 from Nat.lt_one_iff.1 hi];rfl) hf.2.2.2)⟩
theorem IY{a0:Value}{l:List D.Tg3}:Td Tryz.prog 158 #[a0] [dv (rL Be) a0 l] [] (rL Be) (Ic l):=by
 refine Az (args:=[a0]) Tryz.func158 rfl rfl rfl fun w0 X=>?_
 refine jq (jr (ja Z (jn (jx (jq (jr (NH (k9:=8192) (r:=Be) (a:=default) Ek Qc rfl (by decide) Z Z Z Z (by omega) (fun F=>⟨⟨rfl,rfl⟩,⟨rfl,rfl⟩,rL.nil _,rL.nil _⟩) fun g8=>ja Z (jn (jx (jq ?_))))))))))
 refine jq (jr (ja Z (jn (jx (jb ?_)))))
 refine jlp (u2 fun(k:Nat) (o1:List D.Tg3)=>⟨k≤8192∧o1=List.replicate k noT++List.replicate (8192-k) default,[dv (rL Be) a0 l],[gl X.n Be 170 (.slice (some ⟨g8,0,none⟩) 8192 8192) o1],[(0,a0),(2,.slice none 0 0),(3,(.slice (some ⟨g8,0,none⟩) 8192 8192)),(4,.int .i64 (↑k))],8192-k⟩) (0,List.replicate 8192 default) ⟨by dsimp only;omega,by show _=List.replicate 0 noT++List.replicate (8192-0) default;rw[List.replicate_zero,List.nil_append]⟩ (dc d0 dn) (kc k0 kn) ⟨Z,Z,Z,eqI (by omega),trivial⟩ ?_
 rintro⟨k,o1⟩;dsimp only[u2];rintro⟨hk,ho1⟩
 have hol:o1.length=8192:=by rw[ho1,List.length_append,List.length_replicate,List.length_replicate];omega
 refine jq (jq (jr (jm Z (js (Ar Z Z) (jn (jx ?_))))))
 refine jif Z (fun hc1=>?_) (fun hc1=>?_)
 refine jsk (jx (jq (jb (jr (jm Z (jm Z (js (jig Ek Er k0 Z Z Z (by omega)) (js (jf Gp Z) (jsp (i:=k) (off:=0) (a:={ ix o1 k with Block:=(-1) }) k0 (by omega) Z3 Z (by omega) Z Z (Be.S_Block (wl (-1))) (jn (jbn ?_)))))))))))
 refine jx (jr (jm Z (js (Al Z Z (by omega)) (ja Z (jn ?_)))))
 exact jag (k+1,List.set o1 k ({ ix o1 k with Block:=(-1) })) ⟨by dsimp only;omega,by dsimp only;rw[ho1];exact QT (by omega) (by rw[QS (by omega)];rfl)⟩ (dc d0 dn) (kc k0 kn) ⟨Z,Z,Z,eqI (by omega),trivial⟩
 refine jex (jtx (jtx (jbh (jx (jq (jq (jr (ja Z (jn (jx (jb ?_)))))))))))
 refine jlp (u2 fun(i:Nat) (o2:List D.Tg3)=>⟨i≤l.length∧Ic l=(l.drop i).foldl Kj o2∧o2.length=8192,[dv (rL Be) a0 l],[gl X.n Be 170 (.slice (some ⟨g8,0,none⟩) 8192 8192) o2],[(0,a0),(2,.slice none 0 0),(3,(.slice (some ⟨g8,0,none⟩) 8192 8192)),(5,.int .i64 (↑i))],l.length-i⟩) (0,o1) ⟨by dsimp only;omega,by dsimp only;rw[ho1,show k=8192 by omega,Nat.sub_self,List.replicate_zero,List.append_nil];rfl,hol⟩ (dc d0 dn) (kc k0 kn) ⟨Z,Z,Z,eqI (by omega),trivial⟩ ?_
 rintro⟨i,o2⟩;dsimp only[u2];rintro⟨hi,hS,hol2⟩
 refine jq (jq (jr (jm Z (jm Z (jdq d0 fun q1 w1=>js (jln Ek d0 Z) (js (Ar Z Z) (jn (jx ?_))))))))
 refine jif Z (fun hc2=>?_) (fun hc2=>?_)
 refine jsk (jx (jq (jb (jq (jr (ja Z (jn (jx (jb ?_)))))))))
 refine jlp (u2 fun(j:Nat) (o3:List D.Tg3)=>⟨j≤(ix l i).Makes.length∧(ix l i).Makes.foldl (Kk (ix l i)) o2=((ix l i).Makes.drop j).foldl (Kk (ix l i)) o3∧o3.length=8192,[dv (rL Be) a0 l],[gl X.n Be 170 (.slice (some ⟨g8,0,none⟩) 8192 8192) o3],[(0,a0),(2,.slice none 0 0),(3,(.slice (some ⟨g8,0,none⟩) 8192 8192)),(5,.int .i64 (↑i)),(6,.int .i64 (↑j))],(ix l i).Makes.length-j⟩) (0,o2) ⟨Nat.zero_le _,rfl,hol2⟩ (dc d0 dn) (kc k0 kn) ⟨Z,Z,Z,Z,eqI (by omega),trivial⟩ ?_
 rintro⟨j,o3⟩;dsimp only[u2];rintro⟨hj,hJ,hol3⟩
 refine jq (jq (jr (jm Z (jm Z (jm Z (js (jix Ek Er d0 Z Z Z (by omega)) (js (jf Iw Z) (jev (jlV (Be.A_Makes (dix d0 i (by omega))) O22 Z Z) fun v28 q2 w2=>js (jln U22 d0 Z) (js (Ar Z Z) (jn ?_))))))))))
 refine jx ?_
 refine jif Z (fun hc3=>?_) (fun hc3=>?_)
 refine jsk (jx (jq (jb (jq (jr (jm Z (jm Z (js (jix Ek Er d1 Z Z Z (by omega)) (js (jf Iw Z) (jev (jlV (Be.A_Makes (dix d1 i (by omega))) O22 Z Z) fun v37 q4 w4=>jm Z ?_))))))))))
 refine js (jix U22 Z3 d0 Z Z Z (by omega)) (js (jlI (dix d0 j (by omega)) O3 Z) (ja Z (jn (jx (jq (jr (jm Z (js (Gj Z Z) (jm Z (jg Z Z (.t _) (fun hg=>jmv Z) (jg Z Z (.t _) (fun hg=>Ar (evg Z hg) Z) ?_)))))))))))
 refine js (Cf Z Z) (jn (jx ?_))
 refine jif Z (fun hc4=>?_) (fun hc4=>?_)
 have hc4b:=hc4
 (try simp only[Bool.and_eq_true,decide_eq_true_eq] at hc4b)
 refine jr (jm Z (jm Z (jm Z (jm Z (js (jix Ek Er d2 Z Z Z (by omega)) (jA2 Sw (jlA (dix d2 i (by omega)) Se Er Z) fun c52a c52b=>js (jig (i:=(Int.toNat (ix ((ix l i).Makes) j))) Ek Er k0 Z Z (by omega) (by omega)) (jdq (Be.c_Makes d0) fun q7 w7=>jdq (Be.c_Takes d0) fun q8 w8=>Ui (i:=(Int.toNat (ix ((ix l i).Makes) j))) (off:=0) (us:=[.int .i64 ((ix l i).Block),.int .i64 ((ix l i).Place),c52a,c52b]) (a:=ix l i) k0 (by omega) Er Z (by omega) Z Z ⟨Z,Z,w7.one,w8.one,trivial⟩ (POa d0 Z) (jn ?_))))))))
 refine jbn (jx (jr (jm Z (js (Al Z Z (by omega)) (ja Z (jn ?_))))))
 exact jag (j+1,List.set o3 (Int.toNat (ix ((ix l i).Makes) j)) (ix l i)) ⟨by dsimp only;omega,by dsimp only;rw[hJ,Hf (by omega),List.foldl_cons];congr 1;unfold Kk;rw[if_pos (by(try simp at hc4);omega)],by simpa using hol3⟩ (dc d3 dn) (kc k0 kn) ⟨Z,Z,Z,Z,eqI (by omega),trivial⟩
 refine jsk (jbn (jx (jr (jm Z (js (Al Z Z (by omega)) (ja Z (jn ?_)))))))
 exact jag (j+1,o3) ⟨by dsimp only;omega,by dsimp only;rw[hJ,Hf (by omega),List.foldl_cons];congr 1;unfold Kk;rw[if_neg (by(try simp at hc4);omega)],hol3⟩ (dc d2 dn) (kc k0 kn) ⟨Z,Z,Z,Z,eqI (by omega),trivial⟩
 refine jex (jtx (jtx (jbh (jbn (jx (jr (jm Z (js (Al Z Z (by omega)) (ja Z (jn ?_))))))))))
 exact jag (i+1,o3) ⟨by dsimp only;omega,by dsimp only;rw[hS,Hf (by omega),List.foldl_cons];show _=List.foldl Kj o3 _;rw[←show Kj o2 (ix l i)=o3 by unfold Kj;rw[hJ,List.drop_of_length_le (by omega)];rfl],hol3⟩ (dc d1 dn) (kc k0 kn) ⟨Z,Z,Z,eqI (by omega),trivial⟩
 refine jex (jtx (jtx (jbh (jx (jq (jr (jm Z (ja Z (jn (jx (jrt ?_)))))))))))
 refine qfz k0 (by omega) ?_
 exact jrD Z Z (by rw[hS,List.drop_of_length_le (by omega)];rfl) d0
theorem M4{a0:Value}{f:D.Func}{a1:Value}{made:List D.Tg3}{a2:Value}{away:List (List Bool)}(v:Int)(b:Int)(p:Int)(hb9:0≤b∧b<f.Blocks.length)(hm9:made.length=8192∧∀k,k<8192→(ix made k).Block<f.Blocks.length)(ha9:away.length=f.Blocks.length∧∀k,k<f.Blocks.length→(ix away k).length=f.Blocks.length):Tv Tryz.prog 159 #[vFunc f a0,a1,a2,.int .i64 v,.int .i64 b,.int .i64 p] [da Aj (vFunc f a0) f,dv (rL Be) a1 made,dv (rL (rL rB)) a2 away] [] (.bool (Jt f made away v b p)):=by
 refine Az (args:=[vFunc f a0,a1,a2,.int .i64 v,.int .i64 b,.int .i64 p]) Tryz.func159 rfl rfl rfl fun w0 X=>?_
 refine jq (jr (Cm Z Z fun g6=>ja Z (jn (jx (jq (jq (jr (jm Z (js (Gj Z Z) (jm Z ?_))))))))))
 refine jg Z Z (.t _) (fun hg=>jmv Z) (jg Z Z (.t _) (fun hg=>jf Hu Z) (jg Z Z (.t _) (fun hg=>jl k0 O3 (evg Z hg) Z) (jg Z Z (.t _) (fun hg=>Ar (evg Z hg) (evg Z hg)) (js (Cf Z Z) (jn (jx ?_))))))
 refine jif Z (fun hc1=>?_) (fun hc1=>?_)
 refine jq (jr (ja Z (jn (jx (jrt (jtr ?_))))))
 exact jrB Z Z (by first|(unfold Jt;simp_all;done)|(unfold Jt;(repeat' split)<;>first|rfl|(exfalso;omega)|simp_all))
 have hml:=hm9.1
 have hal:=ha9.1
 refine jsk (jx (jq (jq (jr (jm Z (js (Ar Z Z) (jm Z (jg Z Z (.f _) (fun hg=>jmv Z) (jg Z Z (.f _) (fun hg=>Ee (evg Z hg) Z) (js (jor Z Z) (jm Z ?_)))))))))))
 refine jg Z Z (.f _) (fun hg=>jmv Z) (jg Z Z (.f _) (fun hg=>jmv Z) (jdq d1 fun q1 w1=>jg Z Z (.f _) (fun hg=>jix (i:=v.toNat) Ek Er d1 (evg Z hg) (evg Z hg) (by first|omega|(simp at hg;omega)) (by first|omega|(simp at hg;omega)|(simp only[List.length_set];omega)|(simp;done))) (jg Z Z (.f _) (fun hg=>jf Gp (evg Z hg)) (jg Z Z (.f _) (fun hg=>jlI (Be.A_Block (dix d1 v.toNat (by first|omega|(simp at hg;omega)|(simp only[List.length_set];omega)|(simp;done)))) O3 (evg Z hg)) (jg Z Z (.f _) (fun hg=>Ar (evg Z hg) Z) (js (jor Z Z) (jn (jx ?_))))))))
 refine jif Z (fun hc2=>?_) (fun hc2=>?_)
 refine jq (jr (ja Z (jn (jx (jrt (jtr ?_))))))
 exact jrB Z Z (by first|(unfold Jt;simp_all;done)|(unfold Jt;(repeat' split)<;>first|rfl|(exfalso;omega)|simp_all))
 have hc2b:=hc2
 (try simp only[Bool.or_eq_true,decide_eq_true_eq,not_or] at hc2b)
 have hmb:=hm9.2 v.toNat (by omega)
 refine jsk (jx (jq (jr (jm Z (jm Z (js (jix (i:=v.toNat) Ek Er d1 Z Z (by omega) (by omega)) (jA2 Sw (jlA (dix d1 v.toNat (by omega)) Se Er Z) fun c39a c39b=>Bo Vj Z fun g13=>jdq (Be.c_Makes d0) fun q3 w3=>jdq (Be.c_Takes d0) fun q4 w4=>Bk k0 Er Z Z Z ⟨Z,Z,w3.one,w4.one,trivial⟩ (saf Z) ?_)))))))
 refine jn (jx (jq (jq (jr (js (jf Gp Z) (js (jl k0 O3 Z Z) (jm Z (js (Ao Z Z) (jn (jx ?_))))))))))
 refine jif Z (fun hc3=>?_) (fun hc3=>?_)
 refine jq (jr (js (jf Hj Z) (js (jl k0 O3 Z Z) (js (Ar Z Z) (jm Z (jg Z Z (.f _) (fun hg=>jf Hj Z) (jg Z Z (.f _) (fun hg=>jl k0 O3 (evg Z hg) Z) (jg Z Z (.f _) (fun hg=>jmv Z) (jg Z Z (.f _) (fun hg=>Ar (evg Z hg) (evg Z hg)) (js (jor Z Z) (ja Z ?_)))))))))))
 refine jn (jx (jrt (jtr ?_)))
 exact jrB Z Z (by first|(unfold Jt;simp_all;done)|(unfold Jt;(repeat' split)<;>first|rfl|(exfalso;omega)|simp_all))
 have hab:=ha9.2 (ix made v.toNat).Block.toNat (by omega)
 refine jsk (jx (jq (jr (jm Z (js (jf Gp Z) (js (jl k0 O3 Z Z) (jdq d3 fun q5 w5=>js (jix (i:=(Int.toNat ((ix made v.toNat).Block))) Oc Vg d3 Z Z (by omega) (by omega)) (jev (jlV (dix d3 (Int.toNat ((ix made v.toNat).Block)) (by omega)) Rx Z Z) fun v57 q6 w6=>jm Z (js (jix (i:=b.toNat) Ex Z4 d0 Z Z (by omega) (by omega)) ?_)))))))))
 refine js (jlB (dix d0 b.toNat (by omega)) O4 Z) (js (Dq Z) (ja Z (jn (jx (jrt ?_)))))
 exact jrB Z Z (by first|(unfold Jt;simp_all;done)|(unfold Jt;(repeat' split)<;>first|rfl|(exfalso;omega)|simp_all))
end Go.Proofs.YtmfkkodnghambaaGreat
namespace Go.Proofs.YtmfkkodnghambaaGreat
open Go.JE
theorem VV:Ent Tryz.prog 104:=⟨_,Tryz.func104,by kernel_rfl,by kernel_rfl⟩
theorem UU:Ent Tryz.prog 157:=⟨_,Tryz.func157,by kernel_rfl,by kernel_rfl⟩
theorem UT:Ent Tryz.prog 158:=⟨_,Tryz.func158,by kernel_rfl,by kernel_rfl⟩
theorem DW:Ent Tryz.prog 159:=⟨_,Tryz.func159,by kernel_rfl,by kernel_rfl⟩
theorem TX:Fld Tryz.prog 165 0 0:=⟨_,_,Tryz.underlying165,rfl,rfl,1,(by unfold Sz;kernel_rfl),by decide⟩
theorem TN:∃fs f,Tryz.prog.underlying 165=some (.struct fs)∧fs[0]? = some f∧f.offset=0∧f.type=89:=⟨_,_,Tryz.underlying165,rfl,rfl,rfl⟩
theorem O89:One Tryz.prog 89:=⟨_,Tryz.underlying89,rfl⟩
theorem JD{a0:Value}{f:D.Func}:Tr Tryz.prog 104 #[vFunc f a0] [da Aj (vFunc f a0) f] [] (fun i:{ t:Int×Int×Int // t.1=0↔GoodF f } => .agg #[.int .i64 i.1.1,.int .i64 i.1.2.1,.int .i64 i.1.2.2]) (fun _=>[]) (fun _ _=>[]):=by
 refine Az (args:=[vFunc f a0]) Tryz.func104 rfl rfl rfl fun w0 X=>?_
 refine jq (jr (Cm Z Z fun g1=>Bo Zq Z fun g2=>jn (jx (jq (jq (jr (js (jf Hu Z) (js (jl k1 O3 Z Z) (js (Ar Z Z) ?_)))))))))
 refine jm Z (jg Z Z (.f _) (fun hg=>jf Hu Z) (jg Z Z (.f _) (fun hg=>jl k1 O3 (evg Z hg) Z) (jg Z Z (.f _) (fun hg=>Ee (evg Z hg) Z) (js (jor Z Z) (jn (jx ?_))))))
 refine jif Z (fun hc1=>?_) (fun hc1=>?_)
 refine jq (jr (js (jbu (v := .agg #[.int .i64 1,.int .i64 0,.int .i64 0]) Z (fun _=>by kernel_rfl)) (Bk k0 Du Z Z Z ⟨Z,Z,Z,trivial⟩ (saf Z) (jn (jx (jrt (jtr ?_)))))))
 exact jrc Z Z k0 Hw Du ⟨(1,0,0),⟨fun h=>absurd (show((1:Int))=0 from h) (by decide),fun h=>absurd h (fun h=>by have h9:=(Lr.1 h).1;have h8:=hc1;(try simp at h8);omega)⟩⟩ Z dn (fun _ _=>kn)
 have hp9:0≤f.Params∧f.Params≤4:=by have h9:=hc1;(try simp at h9);omega
 refine jsk (jx (jq (jq (jr (js (jf Bu Z) (js (jl k1 O47 Z Z) (jdq (Aj.cB d0) fun q1 w1=>js (jln U47 (Aj.cB d0) Z) (js (Ao Z Z) (jn (jx ?_))))))))))
 refine jif Z (fun hc2=>?_) (fun hc2=>?_)
 refine jq (jr (js (jbu (v := .agg #[.int .i64 14,.int .i64 0,.int .i64 0]) Z (fun _=>by kernel_rfl)) (Bk k0 Du Z Z Z ⟨Z,Z,Z,trivial⟩ (saf Z) (jn (jx (jrt (jtr ?_)))))))
 exact jrc Z Z k0 Hw Du ⟨(14,0,0),⟨fun h=>absurd (show((14:Int))=0 from h) (by decide),fun h=>absurd h (fun h=>by have h9:=(Lr.1 h).2.1.1;omega)⟩⟩ Z dn (fun _ _=>kn)
 have hl9:0<f.Blocks.length:=by omega
 refine jsk (jx (jq (jr (js (jf Bu Z) (js (jl k1 O47 Z Z) (js (jln U47 (Aj.cB d0) Z) (ja Z (jn (jx (jq (jq ?_)))))))))))
 refine jr (ja Z (jn (jx (jb ?_))))
 refine jlp (u2 fun(k:Nat) (s:Int)=>⟨k≤f.Blocks.length∧s=((f.Blocks.length+Dx (f.Blocks.take k):Nat):Int)∧Dx (f.Blocks.take k)≤k*2147483648,[da Aj (vFunc f a0) f],[bx g2 165 [.int .i64 0,.int .i64 0,.int .i64 0],bx g1 49 [.int .i64 f.Params,a0]],[(1,.pointer (some ⟨g1,0,none⟩)),(2,.pointer (some ⟨g2,0,none⟩)),(3,.int .i64 s),(4,.int .i64 (↑k))],f.Blocks.length-k⟩) (0,(f.Blocks.length:Int)) ⟨by dsimp only;omega,by dsimp only;simp[Dx],by simp[Dx]⟩ (dc d0 dn) (kd kn) ⟨Z,Z,eqI (by omega),eqI (by omega),trivial⟩ ?_
 rintro⟨k,s⟩;dsimp only[u2];rintro⟨hk,hs,hcn⟩
 refine jq (jq (jr (jm Z (js (jf Bu Z) (js (jl k1 O47 Z Z) (js (jln U47 (Aj.cB d0) Z) (js (Ar Z Z) (jn (jx ?_)))))))))
 refine jif Z (fun hc3=>?_) (fun hc3=>?_)
 have hb9:=Rn (bs:=f.Blocks) (k:=k) (by omega)
 refine jsk (jx (jq (jb (Gh Bi (by kernel_rfl) (jt (jmv Z) (jt (jf Bu Z) (jt (jl k1 O47 Z Z) (jt (jmv Z) (jt (jix U47 Z62 (Aj.cB d0) Z Z Z (by omega)) (jt (jf Dy Z) (jtv (jlV (Af.A_Phis (dix (Aj.cB d0) k (by omega))) O57 Z Z) fun v51 q2 w2=>?_)))))))))))
 refine jt (jln U57 d0 Z) (jt (Al Z Z (by omega)) (jt (jf Bu Z) (jt (jl k1 O47 Z Z) (jt (jmv Z) (jt (jix U47 Z62 (Aj.cB d1) Z Z Z (by omega)) (jt (jf Cn Z) (jtv (jlV (Af.A_Ins (dix (Aj.cB d1) k (by omega))) O58 Z Z) fun v59 q4 w4=>jt (jln U58 d0 Z) (jt (Al Z Z (by omega)) (jt (jas Z) (jdn ?_))))))))))
 refine jbn (jx (jr (jm Z (js (Al Z Z (by omega)) (ja Z (jn ?_))))))
 exact jag (k+1,(s+(((List.length ((ix f.Blocks k).Phis):Nat):Int)))+(((List.length ((ix f.Blocks k).Ins):Nat):Int))) ⟨by dsimp only;omega,by dsimp only;rw[hs,Rn (by omega)];omega,by dsimp only;omega⟩ (dc d2 dn) (kd kn) ⟨Z,Z,eqI (by omega),eqI (by omega),trivial⟩
 have hsn:s=((f.Blocks.length+Dx f.Blocks:Nat):Int):=by rw[hs,List.take_of_length_le (by omega)]
 refine jex (jtx (jtx (jbh (jx (jq (jq (jr (js (jf Bu Z) (js (jl k1 O47 Z Z) (js (jln U47 (Aj.cB d0) Z) (js (Ee Z Z) ?_)))))))))))
 refine jm Z (jg Z Z (.f _) (fun hg=>jmv Z) (jg Z Z (.f _) (fun hg=>Ee (evg Z hg) Z) (js (jor Z Z) (jn (jx ?_)))))
 refine jif Z (fun hc4=>?_) (fun hc4=>?_)
 refine jq (jr (js (jbu (v := .agg #[.int .i64 2,.int .i64 0,.int .i64 0]) Z (fun _=>by kernel_rfl)) (Bk k0 Du Z Z Z ⟨Z,Z,Z,trivial⟩ (saf Z) (jn (jx (jrt (jtr ?_)))))))
 exact jrc Z Z k0 Hw Du ⟨(2,0,0),⟨fun h=>absurd (show((2:Int))=0 from h) (by decide),fun h=>absurd h (fun h=>by have h9:=(Lr.1 h).2.1.2;have h7:=(Lr.1 h).2.2.1;have h8:=hc4;rw[hsn] at h8;(try simp at h8);omega)⟩⟩ Z dn (fun _ _=>kn)
 have hm9:f.Blocks.length≤512∧f.Blocks.length+Dx f.Blocks≤4096:=by have h9:=hc4;rw[hsn] at h9;(try simp at h9);omega
 have hsz9:Bw f.Blocks<1000000000:=by rw[Yx];omega
 refine jsk (jx (jq (jr (js (jla k1 A49 Z49 Z Z Z) (jc UU Z Z (IZ hp9.1 (by rw[Yx];omega)) (dc d0 dn) kn (fun _=>p0) (fun _=>p0) fun c72=>Bo Zq Z fun g5=>Bk k0 Du Z Z Z ⟨Z,Z,Z,trivial⟩ (saf Z) (jn (jx (jq (jq ?_)))))))))
 refine jr (js (jf TX Z) (js (jl k0 O89 Z Z) (js (Ga Z Z) (jn (jx ?_)))))
 refine jif Z (fun hc5=>?_) (fun hc5=>?_)
 refine jq (jr (js (jla k0 Hw Du Z Z Z) (Bk k1 Du Z Z Z ⟨Z,Z,Z,trivial⟩ (saf Z) (jn (jx (jrt (jtr ?_)))))))
 exact jrc Z Z k0 Hw Du ⟨(c72.1.1,c72.1.2.1,c72.1.2.2),⟨fun h=>absurd h (by simpa using hc5),fun h=>absurd (c72.2.2 (Lr.1 h).2.2.2.1) (by simpa using hc5)⟩⟩ Z dn (fun _ _=>kn)
 have hS9:ShR f:=c72.2.1 (by simpa using hc5)
 have hrl9:=Mm f (-1)
 refine jsk (jx (jq (jr (js (jla k2 A49 Z49 Z Z Z) (jcg E65 Z Z (Tj (-1)) (dc d0 dn) kn fun v78 w6=>ja Z (jn (jx (jq (jr (Bg (r:=(rL rB)) (l:=[]) Oc Vk (by decide) Z Z Z ln fun g79=>?_))))))))))
 refine ja Z (jn (jx (jq (jq (jr (ja Z (jn (jx (jb ?_)))))))))
 refine jlp (fun(b1:Nat)=>⟨b1≤f.Blocks.length∧∀b,b<b1→ix (Dh f (-1)) b=true,[da Aj (vFunc f a0) f],[gl X.n (rL rB) 129 (.slice (some ⟨g79,0,none⟩) 0 0) ([]),gl X.n rB 4 v78 (Dh f (-1)),bx g2 165 [.int .i64 0,.int .i64 0,.int .i64 0],bx g1 49 [.int .i64 f.Params,a0]],[(1,.pointer (some ⟨g1,0,none⟩)),(2,.pointer (some ⟨g2,0,none⟩)),(6,v78),(7,(.slice (some ⟨g79,0,none⟩) 0 0)),(8,.int .i64 (↑b1))],f.Blocks.length-b1⟩) 0 ⟨Nat.zero_le _,(fun n h=>absurd h (Nat.not_lt_zero _))⟩ (dc d0 dn) (kd (kc k1 (kc k1 kn))) ⟨Z,Z,Z,Z,eqI (by omega),trivial⟩ ?_
 rintro b1;dsimp only;rintro⟨hb1,hR9⟩
 refine jq (jq (jr (jm Z (js (jf Bu Z) (js (jl k3 O47 Z Z) (js (jln U47 (Aj.cB d0) Z) (js (Ar Z Z) (jn (jx ?_)))))))))
 refine jif Z (fun hc6=>?_) (fun hc6=>?_)
 refine jsk (jx (jq (jb (jq (jr (jm Z (jm Z (js (jig Ex Z4 k1 Z Z Z (by omega)) (js (jgB k1 (by omega) O4 Z) (js (Dq Z) (jn ?_)))))))))))
 refine jx ?_
 refine jif Z (fun hc7=>?_) (fun hc7=>?_)
 refine jq (jr (jm Z (js (jbu (v := .agg #[.int .i64 15,.int .i64 (↑b1),.int .i64 0]) Z (fun _=>by kernel_rfl)) (Bk k2 Du Z Z Z ⟨Z,Z,Z,trivial⟩ (saf Z) (jn (jx (jrt (jbr (jtr (jtr (jbr ?_)))))))))))
 refine jtr ?_
 exact jrc Z Z k0 Hw Du ⟨(15,((b1:Nat):Int),0),⟨fun h=>absurd (show((15:Int))=0 from h) (by decide),fun h=>absurd h (fun h=>by have h9:=(Lr.1 h).2.2.2.2.1 b1 (by omega);rw[h9] at hc7;cases hc7)⟩⟩ Z dn (fun _ _=>kn)
 refine jsk (jbn (jx (jr (jm Z (js (Al Z Z (by omega)) (ja Z (jn ?_)))))))
 exact jag (b1+1) ⟨by omega,Ra hR9 (by simpa using hc7)⟩ (dc d0 dn) (kd (kd kn)) ⟨Z,Z,Z,Z,eqI (by omega),trivial⟩
 refine jex (jtx (jtx (jbh (jx (jq (jq (jr (ja Z (jn (jx (jb ?_)))))))))))
 refine jlp (u3 fun(a:Nat) (va:Value) (aw:List (List Bool))=>⟨a≤f.Blocks.length∧aw=Kd f a,[da Aj (vFunc f a0) f],[gl X.n (rL rB) 129 va aw,bx g2 165 [.int .i64 0,.int .i64 0,.int .i64 0],bx g1 49 [.int .i64 f.Params,a0]],[(1,.pointer (some ⟨g1,0,none⟩)),(2,.pointer (some ⟨g2,0,none⟩)),(7,va),(9,.int .i64 (↑a))],f.Blocks.length-a⟩) (0,(.slice (some ⟨g79,0,none⟩) 0 0),[]) ⟨Nat.zero_le _,rfl⟩ (dc d0 dn) (kc k0 (kc k1 (kc k1 kn))) ⟨Z,Z,Z,eqI (by omega),trivial⟩ ?_
 rintro⟨a,va,aw⟩;dsimp only[u3];rintro⟨ha,haw⟩
 refine cgo k0 fun w7=>?_
 have hawl:aw.length=a:=by rw[haw,Zj]
 refine jq (jq (jr (jm Z (js (jf Bu Z) (js (jl k2 O47 Z Z) (js (jln U47 (Aj.cB d0) Z) (js (Ar Z Z) (jn (jx ?_)))))))))
 refine jif Z (fun hc8=>?_) (fun hc8=>?_)
 refine jsk (jx (jq (jb (jr (jm Z (js (jla k2 A49 Z49 Z Z Z) (jm Z (jcg E65 Z Z (Tj ↑a) (dc d0 dn) kn fun v104 w8=>?_))))))))
 have hrla:=Mm f (a:Int)
 refine jfz k0 (by omega) (Gk Oc Vk (by decide) Z Z k0 Z d0 (by omega) (fun _=>Z) fun v106 _ w10=>ja Z (jn (jbn (jx (jr (jm Z (js (Al Z Z (by omega)) (ja Z (jn ?_)))))))))
 exact jag (a+1,v106,aw++[Dh f ((a:Nat):Int)]) ⟨by dsimp only;omega,by dsimp only;rw[haw,CS]⟩ (dc d1 dn) (kd (kc k0 kn)) ⟨Z,Z,Z,eqI (by omega),trivial⟩
 refine jex (jtx (jtx (jbh (jx (jq (jr (jfz k0 (by omega) ?_)))))))
 have haw9:aw=Kd f f.Blocks.length:=by rw[haw,show a=f.Blocks.length by omega]
 have hawl9:aw.length=f.Blocks.length:=by omega
 refine js (jla k1 A49 Z49 Z Z Z) (jcd Vr Z Z (Ti (by omega)) (dc d1 dn) kn fun v108 q12 w12=>ja Z (jn (jx (jq (jr (jm Z (jcd UT Z Z IY (dc d0 dn) kn fun v110 q14 w14=>ja Z (jn (jx ?_)))))))))
 refine jq (jq (jr (ja Z (jn (jx (jb ?_))))))
 refine jlp (fun(i:Nat)=>⟨i≤(Ad f).length∧∀j,j<i→ThUs f (ix (Ad f) j),[dv (rL Be) v110 (Ic (Ad f)),dv (rL Be) v108 (Ad f),dv (rL (rL rB)) va aw,da Aj (vFunc f a0) f],[bx g2 165 [.int .i64 0,.int .i64 0,.int .i64 0],bx g1 49 [.int .i64 f.Params,a0]],[(1,.pointer (some ⟨g1,0,none⟩)),(2,.pointer (some ⟨g2,0,none⟩)),(7,va),(10,v108),(11,v110),(12,.int .i64 (↑i))],(Ad f).length-i⟩) 0 ⟨Nat.zero_le _,(fun n h=>absurd h (Nat.not_lt_zero _))⟩ (dc d0 (dc d1 (dc d2 (dc d3 dn)))) (kd kn) ⟨Z,Z,Z,Z,Z,eqI (by omega),trivial⟩ ?_
 rintro i;dsimp only;rintro⟨hi,hU9⟩
 refine jq (jq (jr (jm Z (jm Z (js (jln Ek d1 Z) (js (Ar Z Z) (jn (jx ?_))))))))
 refine jif Z (fun hc9=>?_) (fun hc9=>?_)
 have hta:=Gf.1 (Ax (l:=Ad f) (i:=i) (by omega))
 have htr:=Sm hta
 refine jsk (jx (jq (jb (jq (jr (jm Z (jm Z (js (jix Ek Er d1 Z Z Z (by omega)) (jA2 Sw (jlA (dix d1 i (by omega)) Se Er Z) fun c120a c120b=>Bo Vj Z fun g13=>jdq (Be.c_Makes d0) fun q17 w17=>?_)))))))))
 refine jdq (Be.c_Takes d0) fun q18 w18=>Bk k0 Er Z Z Z ⟨Z,Z,w17.one,w18.one,trivial⟩ (saf Z) (jn (jx (jq (jr (js (jf Bu Z) (js (jl k2 O47 Z Z) (js (jf Gp Z) (js (jl k0 O3 Z Z) (js (jix (i:=(Int.toNat ((ix (Ad f) i).Block))) U47 Z62 (Aj.cB d4) Z Z (by omega) (by omega)) (jA4 Le (jlA (dix (Aj.cB d4) (Int.toNat ((ix (Ad f) i).Block)) (by omega)) A62 Z62 Z) fun c126a c126b c126c c126d=>?_))))))))))
 refine Bo J62 Z fun g14=>jdq (Af.cP d0) fun q20 w20=>jdq (Af.cI d0) fun q21 w21=>jdq (Af.c_Term_Args d0) fun q22 w22=>jdq (Af.c_Term_To d0) fun q23 w23=>Bk k0 Z62 Z Z Z ⟨w20.one,w21.one,Z,w22.one,w23.one,Z,trivial⟩ (saf Z) (jn (jx (jq (jq (jr (js (jf Hj Z) ?_))))))
 refine js (jl k1 O3 Z Z) (js (Gj Z Z) (jn (jx ?_)))
 refine jif Z (fun hc10=>?_) (fun hc10=>?_)
 refine jq (jq (jr (ja Z (jn (jx (jb ?_))))))
 refine jlp (fun(m5:Nat)=>⟨m5≤(ix (Ad f) i).Takes.length∧∀v∈(ix (Ad f) i).Takes.take m5,stG f v (ix (Ad f) i).Block (ix (Ad f) i).Place=true,[da Af (vBlock (ix f.Blocks (Int.toNat ((ix (Ad f) i).Block))) (c126a,c126b,c126c,c126d)) (ix f.Blocks (Int.toNat ((ix (Ad f) i).Block))),da Be (vTg3 (ix (Ad f) i) (c120a,c120b)) (ix (Ad f) i),dv (rL Be) v110 (Ic (Ad f)),dv (rL Be) v108 (Ad f),dv (rL (rL rB)) va aw,da Aj (vFunc f a0) f],[bx g14 62 [c126a,c126b,.int .i64 (((ix f.Blocks (Int.toNat ((ix (Ad f) i).Block))).Term).Kind),c126c,c126d,.int .i32 (((ix f.Blocks (Int.toNat ((ix (Ad f) i).Block))).Term).Imm)],bx g13 170 [.int .i64 ((ix (Ad f) i).Block),.int .i64 ((ix (Ad f) i).Place),c120a,c120b],bx g2 165 [.int .i64 0,.int .i64 0,.int .i64 0],bx g1 49 [.int .i64 f.Params,a0]],[(1,.pointer (some ⟨g1,0,none⟩)),(2,.pointer (some ⟨g2,0,none⟩)),(7,va),(10,v108),(11,v110),(12,.int .i64 (↑i)),(13,.pointer (some ⟨g13,0,none⟩)),(14,.pointer (some ⟨g14,0,none⟩)),(15,.int .i64 (↑m5))],(ix (Ad f) i).Takes.length-m5⟩) 0 ⟨Nat.zero_le _,(fun n h=>by cases h)⟩ (dc d0 (dc d1 (dc d2 (dc d3 (dc d4 (dc d5 dn)))))) (kd (kd kn)) ⟨Z,Z,Z,Z,Z,Z,Z,Z,eqI (by omega),trivial⟩ ?_
 rintro m5;dsimp only;rintro⟨hm5x,hK9⟩
 refine jq (jq (jr (jm Z (js (jf Vn Z) (js (jl k1 O22 Z Z) (js (jln U22 (Be.c_Takes d1) Z) (js (Ar Z Z) (jn (jx ?_)))))))))
 refine jif Z (fun hc11=>?_) (fun hc11=>?_)
 refine jsk (jx (jq (jb (jq (Bz false (.a 0 (.a 1 (.a 2 (.a 3 (.a 4 (.a 5 (.a 6 (.a 7 (.a 8 (.a 9 (.a 10 (.a 11 (.o 12 (.a 13 .e)))))))))))))) Bi (by kernel_rfl) (kc k1 (kc k2 kn)) fun F24=>jy Z (jla k1 A49 Z49 Z Z Z) (jy Z (jmv Z) (jy Z (jmv Z) (jy Z (jf Vn Z) (jy Z (jl k0 O22 Z Z) (jy Z (jmv Z) ?_))))))))))
 refine jy Z (jix U22 Z3 (Be.c_Takes d1) Z Z Z (by omega)) (jy Z (jlI (dix (Be.c_Takes d1) m5 (by omega)) O3 Z) (jy Z (jf Gp Z) (jy Z (jl k0 O3 Z Z) (jy Z (jf Hj Z) (jy Z (jl k0 O3 Z Z) (jyo Z (jcv DW Z Z (M4 (ix ((ix (Ad f) i).Takes) m5) ((ix (Ad f) i).Block) ((ix (Ad f) i).Place) (by omega) ⟨H7,fun k hk=>H6 hk⟩ ⟨hawl9,fun k hk=>by rw[haw9,Ru f hk];exact Mm f _⟩) (dc d6 (dc d3 (dc d5 dn))) kn (jyn d0 (kc k1 (kc k2 kn)) (jy Z (Dq Z) (jyd (jx ?_)))))))))))
 refine jif Z (fun hc12=>?_) (fun hc12=>?_)
 refine jq (jr (js (jf Gp Z) (js (jl k1 O3 Z Z) (js (jf Hj Z) (js (jl k1 O3 Z Z) (js (jbu (v := .agg #[.int .i64 13,.int .i64 ((ix (Ad f) i).Block),.int .i64 ((ix (Ad f) i).Place)]) Z (fun _=>by kernel_rfl)) (Bk k2 Du Z Z Z ⟨Z,Z,Z,trivial⟩ (saf Z) (jn (jx (jrt (jbr ?_)))))))))))
 refine jtr (jtr (jbr (jtr (jtr (jbr (jtr (jtr (jbr (jtr ?_)))))))))
 exact jrc Z Z k0 Hw Du ⟨(13,(ix (Ad f) i).Block,(ix (Ad f) i).Place),⟨fun h=>absurd (show((13:Int))=0 from h) (by decide),fun h=>absurd h (fun h=>by have h9:=((Lr.1 h).2.2.2.2.2 _ (Ax (l:=Ad f) (i:=i) (by omega))).tk (by omega) _ (Ax (l:=(ix (Ad f) i).Takes) (i:=m5) (by omega));unfold stG at h9;have h8:=hc12;rw[haw9] at h8;(first|(rw[h9] at h8;cases h8;done)|(simp[h9] at h8;done)|(simp[h8] at h9;done)))⟩⟩ Z dn (fun _ _=>kn)
 refine jsk (jbn (jx (jr (jm Z (js (Al Z Z (by omega)) (ja Z (jn ?_)))))))
 exact jag (m5+1) ⟨by omega,Vb (by omega) hK9 (by have h9:=hc12;rw[haw9] at h9;unfold stG;first|exact h9|simpa using h9)⟩ (dc d1 (dc d2 (dc d3 (dc d4 (dc d5 (dc d6 dn)))))) (kd (kd kn)) ⟨Z,Z,Z,Z,Z,Z,Z,Z,eqI (by omega),trivial⟩
 refine jex (jtx (jtx (jbh (jx (jex (jtx (jbh (jx (jr (jm Z (js (Al Z Z (by omega)) ?_)))))))))))
 refine ja Z (jn ?_)
 exact jag (i+1) ⟨by omega,Ra hU9 ⟨fun _=>Vd hK9 (by omega),fun h=>by omega,fun h=>by omega⟩⟩ (dc d2 (dc d3 (dc d4 (dc d5 dn)))) (kc k2 (kc k2 kn)) ⟨Z,Z,Z,Z,Z,eqI (by omega),trivial⟩
 have htp:=G2 hta (by omega)
 have htp2:=FN hta (by omega)
 have htn:tIn f (ix (Ad f) i)=(ix (ix f.Blocks (Int.toNat (ix (Ad f) i).Block)).Phis (Int.toNat (-1-(ix (Ad f) i).Place))).In:=rfl
 have hpl9:=N8 f (ix (Ad f) i).Block
 refine jsk (jx (jq (jr (js (jf Dy Z) (js (jl k0 O57 Z Z) (js (jf Hj Z) (js (jl k1 O3 Z Z) (js (Gw Z Z (by omega)) (js (jix (i:=(Int.toNat ((-1)-((ix (Ad f) i).Place)))) U57 Z65 (Af.cP d0) Z Z (by omega) (by omega)) (js (jf Fa Z) (jev (jlV (Aw.A_In (dix (Af.cP d0) (Int.toNat ((-1)-((ix (Ad f) i).Place))) (by omega))) O63 Z Z) fun v163 q26 w26=>?_)))))))))))
 refine ja Z (jn (jx (jq (jr (js (jla k3 A49 Z49 Z Z Z) (js (jf Gp Z) (js (jl k1 O3 Z Z) (jcg E63 Z Z (Xd ((ix (Ad f) i).Block)) (dc d6 dn) kn fun v167 w28=>ja Z (jn (jx ?_))))))))))
 refine jq (jr (js (jf Gp Z) (js (jl k2 O3 Z Z) (js (Ee Z Z) (jm Z (jg Z Z (.t _) (fun hg=>jmv Z) (jg Z Z (.t _) (fun hg=>jln U63 d0 (evg Z hg)) (jg Z Z (.t _) (fun hg=>jmv Z) (jg Z Z (.t _) (fun hg=>jlg U22 k0 (evg Z hg)) (jg Z Z (.t _) (fun hg=>Ao (evg Z hg) (evg Z hg)) (js (Cf Z Z) ?_)))))))))))
 refine ja Z (jn (jx (jq (jq (jr (ja Z (jn (jx (jb ?_)))))))))
 refine jlp (u2 fun(m6:Nat) (ft:Bool)=>⟨m6≤(pd3 f (ix (Ad f) i).Block).length∧(ft=true↔Og f (ix (Ad f) i) m6),[dv (rL rIn) v163 ((ix ((ix f.Blocks (Int.toNat ((ix (Ad f) i).Block))).Phis) (Int.toNat ((-1)-((ix (Ad f) i).Place)))).In),da Be (vTg3 (ix (Ad f) i) (c120a,c120b)) (ix (Ad f) i),dv (rL Be) v110 (Ic (Ad f)),dv (rL Be) v108 (Ad f),dv (rL (rL rB)) va aw,da Aj (vFunc f a0) f],[gl X.n (rI .i64) 3 v167 (pd3 f ((ix (Ad f) i).Block)),bx g13 170 [.int .i64 ((ix (Ad f) i).Block),.int .i64 ((ix (Ad f) i).Place),c120a,c120b],bx g2 165 [.int .i64 0,.int .i64 0,.int .i64 0],bx g1 49 [.int .i64 f.Params,a0]],[(1,.pointer (some ⟨g1,0,none⟩)),(2,.pointer (some ⟨g2,0,none⟩)),(7,va),(10,v108),(11,v110),(12,.int .i64 (↑i)),(13,.pointer (some ⟨g13,0,none⟩)),(16,v163),(17,v167),(18,.bool ft),(19,.int .i64 (↑m6))],(pd3 f (ix (Ad f) i).Block).length-m6⟩) (0,(decide (0<(ix (Ad f) i).Block))&&(decide (((List.length ((ix ((ix f.Blocks (Int.toNat ((ix (Ad f) i).Block))).Phis) (Int.toNat ((-1)-((ix (Ad f) i).Place)))).In):Nat):Int)=((List.length (pd3 f ((ix (Ad f) i).Block)):Nat):Int)))) ⟨Nat.zero_le _,by dsimp only;unfold Og tIn;simp;(try omega)⟩ (dc d0 (dc d2 (dc d3 (dc d4 (dc d5 (dc d6 dn)))))) (kc k0 (kc k1 (kc k1 (kc k1 kn)))) ⟨Z,Z,Z,Z,Z,Z,Z,Z,Z,Z,eqI (by omega),trivial⟩ ?_
 rintro⟨m6,ft⟩;dsimp only[u2];rintro⟨hm6x,hft⟩
 refine jq (jq (jr (jm Z (jm Z (jg Z Z (.t _) (fun hg=>jmv Z) (jg Z Z (.t _) (fun hg=>jmv Z) (jg Z Z (.t _) (fun hg=>jlg U22 k0 (evg Z hg)) (jg Z Z (.t _) (fun hg=>Ar (evg Z hg) (evg Z hg)) (js (Cf Z Z) (jn (jx ?_)))))))))))
 refine jif Z (fun hc13=>?_) (fun hc13=>?_)
 have hc13b:=hc13
 (try simp only[Bool.and_eq_true,decide_eq_true_eq] at hc13b)
 have hfk:=(hft.1 hc13b.1).1.2
 rw[htn] at hfk
 refine jsk (jx (jq (jb (Gh Bi (by kernel_rfl) (jt (jmv Z) (jt (jmv Z) (jt (jix U63 Hh d0 Z Z Z (by omega)) (jt (jf Ng Z) (jt (jlI (rIn.A_From (dix d0 m6 (by omega))) O3 Z) (jt (jmv Z) (jt (jmv Z) ?_)))))))))))
 refine jt (jig U22 Z3 k0 Z Z Z (by omega)) (jt (jgI k0 (by omega) O3 Z) (jt (Ao Z Z) (jt (jas Z) (jdn (jbn (jx (jr (jm Z (js (Al Z Z (by omega)) (ja Z (jn ?_)))))))))))
 exact jag (m6+1,decide ((ix ((ix ((ix f.Blocks (Int.toNat ((ix (Ad f) i).Block))).Phis) (Int.toNat ((-1)-((ix (Ad f) i).Place)))).In) m6).From=ix (pd3 f ((ix (Ad f) i).Block)) m6)) ⟨by dsimp only;omega,QP (hft.1 hc13b.1) (by unfold tIn;first|rfl|simp)⟩ (dc d0 (dc d1 (dc d2 (dc d3 (dc d4 (dc d5 dn)))))) (kd (kd kn)) ⟨Z,Z,Z,Z,Z,Z,Z,Z,Z,Z,eqI (by omega),trivial⟩
 refine jex (jtx (jtx (jbh (jx (jq (jq (jr (jm Z (js (Dq Z) (jn (jx ?_)))))))))))
 refine jif Z (fun hc14=>?_) (fun hc14=>?_)
 refine jq (jr (js (jf Gp Z) (js (jl k1 O3 Z Z) (js (jf Hj Z) (js (jl k1 O3 Z Z) (js (jbu (v := .agg #[.int .i64 16,.int .i64 ((ix (Ad f) i).Block),.int .i64 ((ix (Ad f) i).Place)]) Z (fun _=>by kernel_rfl)) (Bk k2 Du Z Z Z ⟨Z,Z,Z,trivial⟩ (saf Z) (jn (jx (jrt (jtr ?_)))))))))))
 refine jbr (jtr (jtr (jbr (jtr ?_))))
 exact jrc Z Z k0 Hw Du ⟨(16,(ix (Ad f) i).Block,(ix (Ad f) i).Place),⟨fun h=>absurd (show((16:Int))=0 from h) (by decide),fun h=>absurd h (fun h=>by have h9:=((Lr.1 h).2.2.2.2.2 _ (Ax (l:=Ad f) (i:=i) (by omega))).fr (by omega);have h8:=hft.2 (QQ ((AS (Nat.le_refl _)).2 h9) hm6x);simp[h8] at hc14)⟩⟩ Z dn (fun _ _=>kn)
 have hft1:ft=true:=by simpa using hc14
 have hke:(pd3 f (ix (Ad f) i).Block).length≤m6:=by have h9:=hc13;rw[hft1] at h9;(try simp at h9);omega
 have hfr9:=(AS hke).1 (hft.1 hft1)
 refine jsk (jx (jq (jr (ja Z (jn (jx (jb ?_)))))))
 refine jlp (fun(j7:Nat)=>⟨j7≤(ix (ix f.Blocks (Int.toNat (ix (Ad f) i).Block)).Phis (Int.toNat (-1-(ix (Ad f) i).Place))).In.length∧∀x∈(ix (ix f.Blocks (Int.toNat (ix (Ad f) i).Block)).Phis (Int.toNat (-1-(ix (Ad f) i).Place))).In.take j7,stG f x.Val x.From (ix f.Blocks x.From.toNat).Ins.length=true,[dv (rL rIn) v163 ((ix ((ix f.Blocks (Int.toNat ((ix (Ad f) i).Block))).Phis) (Int.toNat ((-1)-((ix (Ad f) i).Place)))).In),da Be (vTg3 (ix (Ad f) i) (c120a,c120b)) (ix (Ad f) i),dv (rL Be) v110 (Ic (Ad f)),dv (rL Be) v108 (Ad f),dv (rL (rL rB)) va aw,da Aj (vFunc f a0) f],[bx g13 170 [.int .i64 ((ix (Ad f) i).Block),.int .i64 ((ix (Ad f) i).Place),c120a,c120b],bx g2 165 [.int .i64 0,.int .i64 0,.int .i64 0],bx g1 49 [.int .i64 f.Params,a0]],[(1,.pointer (some ⟨g1,0,none⟩)),(2,.pointer (some ⟨g2,0,none⟩)),(7,va),(10,v108),(11,v110),(12,.int .i64 (↑i)),(13,.pointer (some ⟨g13,0,none⟩)),(16,v163),(20,.int .i64 (↑j7))],(ix (ix f.Blocks (Int.toNat (ix (Ad f) i).Block)).Phis (Int.toNat (-1-(ix (Ad f) i).Place))).In.length-j7⟩) 0 ⟨Nat.zero_le _,(fun n h=>by cases h)⟩ (dc d0 (dc d1 (dc d2 (dc d3 (dc d4 (dc d5 dn)))))) (kc k1 (kc k1 (kc k1 kn))) ⟨Z,Z,Z,Z,Z,Z,Z,Z,eqI (by omega),trivial⟩ ?_
 rintro j7;dsimp only;rintro⟨hj7,hP9⟩
 refine jq (jq (jr (jm Z (jm Z (js (jln U63 d0 Z) (js (Ar Z Z) (jn (jx ?_))))))))
 refine jif Z (fun hc15=>?_) (fun hc15=>?_)
 have hxr:=N7 (f:=f) (x:=(ix (ix (ix f.Blocks (Int.toNat (ix (Ad f) i).Block)).Phis (Int.toNat (-1-(ix (Ad f) i).Place))).In j7).From) (by rw[←hfr9.2];exact List.mem_map.2 ⟨_,Ax (l:=(ix (ix f.Blocks (Int.toNat (ix (Ad f) i).Block)).Phis (Int.toNat (-1-(ix (Ad f) i).Place))).In) (i:=j7) (by omega),rfl⟩)
 refine jsk (jx (jq (jb (jq (Bz false (.a 0 (.a 1 (.a 2 (.a 3 (.a 4 (.a 5 (.a 6 (.a 7 (.a 8 (.a 9 (.a 10 (.a 11 (.a 12 (.a 13 (.a 14 (.a 15 (.a 16 (.a 17 (.a 18 (.a 19 (.a 20 (.a 21 (.a 22 (.a 23 (.o 24 (.a 25 .e)))))))))))))))))))))))))) Bi (by kernel_rfl) (kc k2 kn) fun F29=>jy Z (jla k0 A49 Z49 Z Z Z) (jy Z (jmv Z) (jy Z (jmv Z) (jy Z (jmv Z) (jy Z (jmv Z) (jy Z (jix U63 Hh d0 Z Z Z (by omega)) ?_))))))))))
 refine jy Z (jf Qi Z) (jy Z (jlI (rIn.A_Val (dix d0 j7 (by omega))) O3 Z) (jy Z (jmv Z) (jy Z (jmv Z) (jy Z (jix U63 Hh d0 Z Z Z (by omega)) (jy Z (jf Ng Z) (jy Z (jlI (rIn.A_From (dix d0 j7 (by omega))) O3 Z) (jy Z (jf Bu Z) (jy Z (jl k0 O47 Z Z) (jy Z (jmv Z) (jy Z (jmv Z) (jy Z (jix U63 Hh d0 Z Z Z (by omega)) ?_)))))))))))
 refine jy Z (jf Ng Z) (jy Z (jlI (rIn.A_From (dix d0 j7 (by omega))) O3 Z) (jy Z (jix (i:=(Int.toNat ((ix ((ix ((ix f.Blocks (Int.toNat ((ix (Ad f) i).Block))).Phis) (Int.toNat ((-1)-((ix (Ad f) i).Place)))).In) j7).From))) U47 Z62 (Aj.cB d5) Z Z (by omega) (by omega)) (jy Z (jf Cn Z) (jye (q:=fun v=>dv (rL Am) v ((ix f.Blocks (Int.toNat ((ix ((ix ((ix f.Blocks (Int.toNat ((ix (Ad f) i).Block))).Phis) (Int.toNat ((-1)-((ix (Ad f) i).Place)))).In) j7).From))).Ins)) Z (xlV (Af.A_Ins (dix (Aj.cB d5) (Int.toNat ((ix ((ix ((ix f.Blocks (Int.toNat ((ix (Ad f) i).Block))).Phis) (Int.toNat ((-1)-((ix (Ad f) i).Place)))).In) j7).From)) (by omega))) O58 Z Z) fun v232=>adq d0 fun q31 w31=>jy Z (jln U58 d0 Z) (jyo Z (jcv DW Z Z (M4 _ _ _ (by omega) ⟨H7,fun k hk=>H6 hk⟩ ⟨hawl9,fun k hk=>by rw[haw9,Ru f hk];exact Mm f _⟩) (dc d7 (dc d4 (dc d6 dn))) kn (jyn d0 (kc k2 kn) (jy Z (Dq Z) (jyd ?_)))))))))
 refine jx ?_
 refine jif Z (fun hc16=>?_) (fun hc16=>?_)
 refine jq (jr (js (jf Gp Z) (js (jl k0 O3 Z Z) (js (jf Hj Z) (js (jl k0 O3 Z Z) (js (jbu (v := .agg #[.int .i64 13,.int .i64 ((ix (Ad f) i).Block),.int .i64 ((ix (Ad f) i).Place)]) Z (fun _=>by kernel_rfl)) (Bk k1 Du Z Z Z ⟨Z,Z,Z,trivial⟩ (saf Z) (jn (jx (jrt (jbr ?_)))))))))))
 refine jtr (jtr (jbr (jbr (jtr (jtr (jbr (jtr ?_)))))))
 exact jrc Z Z k0 Hw Du ⟨(13,(ix (Ad f) i).Block,(ix (Ad f) i).Place),⟨fun h=>absurd (show((13:Int))=0 from h) (by decide),fun h=>absurd h (fun h=>by have h9:=((Lr.1 h).2.2.2.2.2 _ (Ax (l:=Ad f) (i:=i) (by omega))).up (by omega) _ (Ax (l:=(ix (ix f.Blocks (Int.toNat (ix (Ad f) i).Block)).Phis (Int.toNat (-1-(ix (Ad f) i).Place))).In) (i:=j7) (by omega));unfold stG at h9;have h8:=hc16;rw[haw9] at h8;(first|(rw[h9] at h8;cases h8;done)|(simp[h9] at h8;done)|(simp[h8] at h9;done)))⟩⟩ Z dn (fun _ _=>kn)
 refine jsk (jbn (jx (jr (jm Z (js (Al Z Z (by omega)) (ja Z (jn ?_)))))))
 exact jag (j7+1) ⟨by omega,Vb (by omega) hP9 (by have h9:=hc16;rw[haw9] at h9;unfold stG;first|exact h9|simpa using h9)⟩ (dc d2 (dc d3 (dc d4 (dc d5 (dc d6 (dc d7 dn)))))) (kd (kc k0 kn)) ⟨Z,Z,Z,Z,Z,Z,Z,Z,eqI (by omega),trivial⟩
 refine jex (jtx (jtx (jbh (jbn (jx (jr (jm Z (js (Al Z Z (by omega)) (ja Z (jn ?_))))))))))
 exact jag (i+1) ⟨by omega,Ra hU9 ⟨fun h=>by omega,fun _=>hfr9,fun _=>Vd hP9 (by rw[htn];omega)⟩⟩ (dc d2 (dc d3 (dc d4 (dc d5 dn)))) (kc k1 (kc k1 kn)) ⟨Z,Z,Z,Z,Z,eqI (by omega),trivial⟩
 refine jex (jtx (jtx (jbh (jx (jq (jr (js (jbu (v := .agg #[.int .i64 0,.int .i64 0,.int .i64 0]) Z (fun _=>by kernel_rfl)) (Bk k0 Du Z Z Z ⟨Z,Z,Z,trivial⟩ (saf Z) (jn (jx (jrt ?_)))))))))))
 exact jrc Z Z k0 Hw Du ⟨(0,0,0),⟨fun _=>Lr.2 ⟨hp9,⟨hl9,by omega⟩,by omega,hS9,fun b hb=>hR9 b (by omega),DA (fun j hj=>hU9 j (by omega))⟩,fun _=>rfl⟩⟩ Z dn (fun _ _=>kn)
theorem JA{a0:Value}{f:D.Func}(r:Bool)(hr:r=true↔GoodF f):Tv Tryz.prog 52 #[vFunc f a0] [da Aj (vFunc f a0) f] [] (.bool r):=by
 refine Az (args:=[vFunc f a0]) Tryz.func52 rfl rfl rfl fun w0 X=>?_
 refine jq (jr (Cm Z Z fun g1=>ja Z (jn (jx (jq (jr (js (jla k0 A49 Z49 Z Z Z) (jc VV Z Z JD (dc d0 dn) kn (fun _=>p0) (fun _=>p0) fun c4=>js (jfo TN O89 Z Z) (js (Ao Z Z) ?_)))))))))
 refine ja Z (jn (jx (jrt ?_)))
 exact jrB Z Z (by have h9:=c4.2;cases r<;>simp_all)
end Go.Proofs.YtmfkkodnghambaaGreat
namespace Go.Proofs.YtmfkkodnghambaaGreat
open Go.JE
theorem UP:Ent Tryz.prog 165:=⟨_,Tryz.func165,by kernel_rfl,by kernel_rfl⟩
theorem UO:Ent Tryz.prog 168:=⟨_,Tryz.func168,by kernel_rfl,by kernel_rfl⟩
theorem Zy:Ent Tryz.prog 169:=⟨_,Tryz.func169,by kernel_rfl,by kernel_rfl⟩
theorem UN:Ent Tryz.prog 170:=⟨_,Tryz.func170,by kernel_rfl,by kernel_rfl⟩
theorem Zu:Fld Tryz.prog 219 0 0:=⟨_,_,Tryz.underlying219,rfl,rfl,1,(by unfold Sz;kernel_rfl),by decide⟩
theorem DN:Fld Tryz.prog 219 1 1:=⟨_,_,Tryz.underlying219,rfl,rfl,1,(by unfold Sz;kernel_rfl),by decide⟩
theorem Qa:One Tryz.prog 176:=⟨_,Tryz.underlying176,rfl⟩
theorem MY{a0:Value}{l:List Int}(v:Int):Tv Tryz.prog 176 #[a0,.int .i64 v] [dv (rL (rI .i64)) a0 l] [] (.int .i64 (Rk l v)):=by
 refine Az (args:=[a0,.int .i64 v]) Tryz.func176 rfl rfl rfl fun w0 X=>?_
 refine jq (jr (ja Z (jn (jx (jq (jq (jr (jm Z (jdq d0 fun q1 w1=>js (jln U22 d0 Z) (jm Z ?_))))))))))
 refine jn (jx (jb ?_))
 refine jlp (fun(k:Nat)=>⟨k≤l.length∧Rk l v=Jj l v (l.length-k) k,[dv (rL (rI .i64)) a0 l],[],[(0,a0),(1,.int .i64 v),(7,.int .i64 (↑l.length)),(8,.int .i64 (↑k))],l.length-k⟩) 0 ⟨Nat.zero_le _,rfl⟩ (dc d0 dn) kn ⟨Z,Z,Z,eqI (by omega),trivial⟩ ?_
 rintro k;dsimp only;rintro⟨hk,hix⟩
 refine jq (jr (js (Ar Z Z) (jn (jx (jq ?_)))))
 refine jif Z (fun hc1=>?_) (fun hc1=>?_)
 refine jsk (jx (jq (jb (jq (jr (jm Z (ja Z (jn (jx (jq (jr ?_)))))))))))
 refine jm Z (jm Z (jm Z (js (jix U22 Z3 d0 Z Z Z (by omega)) (js (jlI (dix d0 k (by omega)) O3 Z) (js (Ao Z Z) (jn (jx ?_)))))))
 refine jif Z (fun hc2=>?_) (fun hc2=>?_)
 refine jq (jr (jm Z (ja Z (jn (jx (jrt (jbr (jtr (jtr (jbr (jtr ?_)))))))))))
 exact jrI Z Z (by first|(rw[hix];exact AC (by omega) hc2)|(rw[hix,show l.length-k=0 by omega];rfl))
 refine jsk (jbn (jx (jr (js (Al Z Z (by omega)) (jm Z (jn ?_))))))
 exact jag (k+1) ⟨by omega,by rw[hix];exact PQ (by omega) hc2⟩ (dc d0 dn) kn ⟨Z,Z,Z,eqI (by omega),trivial⟩
 refine jex (jtx (jtx (jbh (jx (jq (jr (ja Z (jn (jx (jrt ?_))))))))))
 exact jrI Z Z (by first|(rw[hix];exact AC (by omega) hc2)|(rw[hix,show l.length-k=0 by omega];rfl))
theorem NA{a0:Value}{l:List Int}(v:Int):Tv Tryz.prog 138 #[a0,.int .i64 v] [dv (rL (rI .i64)) a0 l] [] (.bool (Ny l v)):=by
 refine Az (args:=[a0,.int .i64 v]) Tryz.func138 rfl rfl rfl fun w0 X=>?_
 refine jq (jr (ja Z (jn (jx (jq (jr (jm Z (jm Z (jdq d0 fun q1 w1=>jcv UL Z Z (MY v) (dc d0 dn) kn (js (Gj Z Z) ?_))))))))))
 refine ja Z (jn (jx (jrt ?_)))
 exact jrB Z Z (by unfold Ny;rfl)
end Go.Proofs.YtmfkkodnghambaaGreat
namespace Go.Proofs.YtmfkkodnghambaaGreat
open Go.JE
abbrev U20:=@Tryz.underlying20
theorem Qk:Ent Tryz.prog 112:=⟨_,Tryz.func112,by kernel_rfl,by kernel_rfl⟩
theorem VQ:Ent Tryz.prog 115:=⟨_,Tryz.func115,by kernel_rfl,by kernel_rfl⟩
theorem VP:Ent Tryz.prog 116:=⟨_,Tryz.func116,by kernel_rfl,by kernel_rfl⟩
theorem E59:Ent Tryz.prog 59:=⟨_,Tryz.func59,by kernel_rfl,by kernel_rfl⟩
theorem Z89:Sz Tryz.prog 89 1:=by unfold Sz;kernel_rfl
theorem J3:(Tryz.prog.info? 3).bind (·.zero)=some (.int .i64 0):=by kernel_rfl
theorem J89:(Tryz.prog.info? 89).bind (·.zero)=some (.int .i64 0):=by kernel_rfl
theorem HV(g2 g3 g4:Nat)(w:World):CallsD Tryz.prog 112 #[.pointer (some ⟨g2,0,none⟩),.pointer (some ⟨g3,0,none⟩),.pointer (some ⟨g4,0,none⟩)] .returning w fun x u' w'=>u' = .returning∧∃v',x = .returned v'∧w'.os=w.os∧w'.tape=w.tape∧w'.output=w.output∧w'.heap=w.heap:=by
 refine(SD (args:=[.pointer (some ⟨g2,0,none⟩),.pointer (some ⟨g3,0,none⟩),.pointer (some ⟨g4,0,none⟩)]) (R:=fun _ H'=>H'=w.heap) Tryz.func112 rfl rfl rfl rfl ?_)
 exact CF.block (CF.seq (CF.region (LF.step (Aa.eqlIf U20 rfl) (LF.nil (PF.next (CF.cond rfl (fun _=>CF.region (LF.step (Aa.assign rfl) (LF.nil (PF.blockNormal (PF.end0 rfl rfl))))) (fun h=>by cases h)))))))
end Go.Proofs.YtmfkkodnghambaaGreat
namespace Go.Proofs.YtmfkkodnghambaaGreat
open Go.JE
def Ms(fr:Int)(V:Int→Int)(l:List D.Phi)(nx:List (Int×Int)):List (Int×Int):=l.foldl (fun nx p=>upW nx p.Dst (V (ix p.In (Int.toNat (Dw p.In (Eo fr)))).Val)) nx
def lkW(nx:List (Int×Int))(k:Int):Option Int:=(nx.find? (fun p=>p.1==k)).map (·.2)
def Mu(nx:List (Int×Int))(V:Int→Int):Int→Int:=fun k=>(lkW nx k).getD (V k)
def Qy(fr:Int)(l:List D.Phi)(V:Int→Int):Int→Int:=Mu (Ms fr V l []) V
theorem KE{fr:Int}{V:Int→Int}{l:List D.Phi}{nx:List (Int×Int)}{k:Nat}(h:k<l.length):Ms fr V (l.take (k+1)) nx=upW (Ms fr V (l.take k) nx) (ix l k).Dst (V (ix (ix l k).In (Int.toNat (Dw (ix l k).In (Eo fr)))).Val):=by
 unfold Ms;rw[Ej h,List.foldl_append];rfl
theorem C9:∀(nx:List (Int×Int)) (k v:Int) (j:Int),j∈(upW nx k v).map (·.1)↔j=k∨j∈nx.map (·.1)
 | [],k,v,j=>by simp[upW]
 | p::r,k,v,j=>by
  unfold upW
  split
  ·rename_i h
   have h:p.1=k:=by simpa using h
   simp[h]
  ·have:=C9 r k v j
   simp only[List.map_cons,List.mem_cons,this]
   exact⟨fun h=>h.elim (fun h => .inr (.inl h)) (fun h=>h.elim .inl (fun h => .inr (.inr h))),fun h=>h.elim (fun h => .inr (.inl h)) (fun h=>h.elim .inl (fun h => .inr (.inr h)))⟩
theorem C8:∀(nx:List (Int×Int)) (k v:Int),(nx.map (·.1)).Nodup→((upW nx k v).map (·.1)).Nodup
 | [],k,v,_=>by simp[upW]
 | p::r,k,v,h=>by
  rw[List.map_cons,List.nodup_cons] at h
  unfold upW
  split
  ·rename_i h1
   have h1:p.1=k:=by simpa using h1
   rw[List.map_cons,List.nodup_cons]
   exact⟨by rw[←h1];exact h.1,h.2⟩
  ·rename_i h1
   have h1:¬p.1=k:=by simpa using h1
   rw[List.map_cons,List.nodup_cons]
   exact⟨fun h2=>((C9 r k v p.1).1 h2).elim h1 h.1,C8 r k v h.2⟩
theorem U9:∀(nx:List (Int×Int)) (k v j:Int),lkW (upW nx k v) j=if j=k then some v else lkW nx j
 | [],k,v,j=>by
  unfold upW lkW
  by_cases h:j=k
  ·simp[h]
  ·have:¬k=j:=fun e=>h e.symm
   simp[h,this]
 | p::r,k,v,j=>by
  have ih:=U9 r k v j
  unfold upW
  split
  ·rename_i h1
   have h1:p.1=k:=by simpa using h1
   unfold lkW at ih ⊢
   by_cases h:j=k
   ·simp[h]
   ·have h2:¬k=j:=fun e=>h e.symm
    have h3:¬p.1=j:=by rw[h1];exact h2
    simp[h,h2,h3]
  ·rename_i h1
   have h1:¬p.1=k:=by simpa using h1
   unfold lkW at ih ⊢
   rw[List.find?_cons,List.find?_cons]
   by_cases h:p.1=j
   ·have h2:(p.1==j)=true:=by simpa using h
    have h3:¬j=k:=by rw[←h];exact h1
    rw[h2,if_neg h3]
   ·have h2:(p.1==j)=false:=by simpa using h
    rw[h2];exact ih
theorem MJ{nx:List (Int×Int)}(hn:(nx.map (·.1)).Nodup){k v:Int}(h:(k,v)∈nx):lkW nx k=some v:=by
 induction nx with
 | nil=>cases h
 | cons p r ih =>
  rw[List.map_cons,List.nodup_cons] at hn
  unfold lkW
  rw[List.find?_cons]
  rcases List.mem_cons.1 h with e|e
  ·subst e;simp
  ·have h1:¬p.1=k:=fun e1=>hn.1 (by rw[e1];exact List.mem_map.2 ⟨_,e,rfl⟩)
   rw[show(p.1==k)=false by simpa using h1]
   exact ih hn.2 e
theorem MI{nx:List (Int×Int)}{k:Int}(h:k∉nx.map (·.1)):lkW nx k=none:=by
 unfold lkW
 rw[Option.map_eq_none_iff,List.find?_eq_none]
 intro p hp e
 exact h (List.mem_map.2 ⟨p,hp,by simpa using e⟩)
theorem Q5{fr:Int}{V:Int→Int}:∀(l:List D.Phi) (nx:List (Int×Int)),(nx.map (·.1)).Nodup→((Ms fr V l nx).map (·.1)).Nodup
 | [],nx,h=>h
 | p::l,nx,h=>Q5 l _ (C8 _ _ _ h)
def Nt(nx:List (Int×Int))(vis:List Int)(V:Int→Int):Int→Int:=fun k=>if k∈vis then (lkW nx k).getD (V k) else V k
theorem KH{nx:List (Int×Int)}{vis:List Int}{V:Int→Int}{k v:Int}(hn:(nx.map (·.1)).Nodup)(h:(k,v)∈nx):Bl (Nt nx vis V) k v=Nt nx (vis++[k]) V:=by
 funext j
 unfold Bl Nt
 by_cases e:j=k
 ·subst e
  rw[if_pos rfl,if_pos (by simp),MJ hn h];rfl
 ·rw[if_neg e]
  by_cases h2:j∈vis
  ·rw[if_pos h2,if_pos (by simp[h2])]
  ·rw[if_neg h2,if_neg (by simp[h2,e])]
theorem KI{nx:List (Int×Int)}{vis:List Int}{V:Int→Int}(h:∀p∈nx,p.1∈vis):Nt nx vis V=Mu nx V:=by
 funext j
 unfold Nt Mu
 split
 ·rfl
 ·rename_i h1
  rw[MI (fun h2=>by obtain⟨p,h3,h4⟩:=List.mem_map.1 h2;exact h1 (by rw[←h4];exact h p h3))];rfl
theorem FB{nx:List (Int×Int)}{vis:List Int}{k v:Int}(hn:vis.Nodup)(hs:∀y∈vis,y∈nx.map (·.1))(h:(k,v)∈nx)(hk:k∉vis):vis.length<nx.length:=by
 have h1:(vis++[k]).Nodup:=List.nodup_append.2 ⟨hn,by simp,fun x hx y hy e=>by simp at hy;subst hy;subst e;exact hk hx⟩
 have h2:=Wi (vis++[k]) (nx.map (·.1)) h1 (fun y hy=>by
  rcases List.mem_append.1 hy with h3|h3
  ·exact hs y h3
  ·simp at h3;subst h3;exact List.mem_map.2 ⟨_,h,rfl⟩)
 rw[List.length_append,List.length_map] at h2
 simp at h2;omega
theorem AY{nx:List (Int×Int)}{fr:Int}{V:Int→Int}(hV:∀k,IntKind.i32.wrap (V k)=V k):∀(l:List D.Phi) (nx:List (Int×Int)),(∀p∈nx,IntKind.i32.wrap p.2=p.2)→∀p∈Ms fr V l nx,IntKind.i32.wrap p.2=p.2
 | [],nx,h=>h
 | q::l,nx,h=>AY (nx:=nx) hV l _ (fun p hp=>by
  have:∀(nx:List (Int×Int)) (k v:Int),IntKind.i32.wrap v=v→(∀p∈nx,IntKind.i32.wrap p.2=p.2)→∀p∈upW nx k v,IntKind.i32.wrap p.2=p.2:=by
   intro nx k v hv
   induction nx with
   | nil=>intro _ p hp;simp[upW] at hp;subst hp;exact hv
   | cons a r ih =>
    intro h p hp
    unfold upW at hp
    split at hp
    ·rcases List.mem_cons.1 hp with e|e
     ·subst e;exact hv
     ·exact h p (by simp[e])
    ·rcases List.mem_cons.1 hp with e|e
     ·subst e;exact h _ (by simp)
     ·exact ih (fun p hp=>h p (by simp[hp])) p e
  exact this nx _ _ (hV _) h p hp)
def wT(t:D.Term)(V:Int→Int):List Int:=t.Args.map V++[0]
def As(t:D.Term)(V:Int→Int):Int :=
 if t.Kind=1 then ix t.To 0
 else if t.Kind=2 then (if ix (wT t V) 0=0 then ix t.To 1 else ix t.To 0)
 else if t.Kind=3 then ix t.To (Int.toNat (min (IntKind.u32.wrap (ix (wT t V) 0)) ((t.To.length:Int)-1)))
 else 0
def Au(t:D.Term)(en:Int):Int:=if t.Kind=1∨t.Kind=2∨t.Kind=3 then en else if t.Kind=4 then 1 else 2
def Bd(t:D.Term)(V:Int→Int)(va:Int):Int:=if t.Kind=1∨t.Kind=2∨t.Kind=3 then va else if t.Kind=4 then ix (wT t V) 0 else t.Imm
def aI(i:D.Ins)(V:Int→Int)(k:Nat):Int:=ix (i.Args.map V) k
def Ag(i:D.Ins)(V:Int→Int)(me an:List Int):Int→Int :=
 if i.Op=1 then Bl V i.Dst i.Imm
 else if i.Op=15 then Bl V i.Dst (Ce me (w32 (aI i V 0+i.Imm))).1
 else if i.Op=16 then V
 else if i.Op=17 then (if 0<an.length then Bl (Bl V i.Dst 0) i.Dst (ix an 0) else Bl V i.Dst 0)
 else if i.Op=18 then Bl (Bl V i.Dst (Gs (aI i V 0) (aI i V 1)).1) i.Two (Gs (aI i V 0) (aI i V 1)).2
 else Bl V i.Dst (doM i.Op (aI i V 0) (aI i V 1)).1
def Ae(i:D.Ins)(V:Int→Int)(me:List Int):Int:=if i.Op=15 then (if (Ce me (w32 (aI i V 0+i.Imm))).2=true then 0 else -2) else if i.Op=16 then (if Jb me (w32 (aI i V 0+i.Imm)) (aI i V 1)=true then 0 else -2) else if i.Op=1∨i.Op=17∨i.Op=18 then 0 else if (doM i.Op (aI i V 0) (aI i V 1)).2=true then 0 else -1
def Ab(i:D.Ins)(V:Int→Int)(me:List Int)(en:Int):Int:=if Ae i V me=0 then en else 2
def Ac(i:D.Ins)(V:Int→Int)(me:List Int)(va:Int):Int:=if Ae i V me=0 then va else Ae i V me
def Ai(i:D.Ins)(V:Int→Int)(me:List Int):List Int:=if i.Op=16 then Fv me (w32 (aI i V 0+i.Imm)) (aI i V 1) else me
def Ah(i:D.Ins)(V:Int→Int)(cl:List D.Event):List D.Event:=if i.Op=17 then cl++[⟨i.Imm,i.Args.map V⟩] else cl
def Di(i:D.Ins)(an:List Int):List Int:=if i.Op=17 then an.drop 1 else an
theorem Wm{t:D.Term}(h:∃s,shM t.Kind=some s∧(s.1≤(t.Args.length:Int)∧(t.Args.length:Int)≤s.2.1)∧(s.2.2.1≤(t.To.length:Int)∧(t.To.length:Int)≤s.2.2.2)) :
  (1≤t.Kind∧t.Kind≤5)∧(t.Kind=1→t.To.length=1∧t.Args.length=0)∧(t.Kind=2→t.To.length=2∧t.Args.length=1)∧(t.Kind=3→(2≤t.To.length∧t.To.length≤65)∧t.Args.length=1)∧t.Args.length≤1:=by
 obtain⟨s,h1,h2,h3⟩:=h
 unfold shM at h1
 repeat' split at h1
 all_goals first
  | (injection h1 with h1;subst h1;simp only at h2 h3;refine⟨by omega,?_,?_,?_,by omega⟩<;>intro<;>omega)
  | cases h1
theorem u32_nn(n:Int):0≤IntKind.u32.wrap n:=by rw[IntKind.wrap_u32];omega
theorem Yh{l:List D.In}{fr:Int}(h:fr∈l.map (fun x=>x.From)):0≤Dw l (Eo fr)∧Dw l (Eo fr)<l.length:=by
 refine⟨?_,PM l (Eo fr)⟩
 unfold Dw
 cases h1:l.findIdx? (Eo fr) with
 | some i=>exact Int.natCast_nonneg i
 | none =>
  rw[List.findIdx?_eq_none_iff] at h1
  obtain⟨x,h2,h3⟩:=List.mem_map.1 h
  have:=h1 x h2
  unfold Eo at this
  simp at this
  exact absurd h3 this
theorem FA{vis:List Int}{k:Int}(h:vis.Nodup)(hk:k∉vis):(vis++[k]).Nodup:=List.nodup_append.2 ⟨h,by simp,fun x hx y hy e=>by simp at hy;subst hy;subst e;exact hk hx⟩
theorem R9{i:D.Ins}(h:(1≤i.Op∧i.Op≤18)∧(Cz i.Op).1≤(i.Args.length:Int)∧(i.Args.length:Int)≤(Cz i.Op).2) :
  (i.Op=15→i.Args.length=1)∧(i.Op≠1→i.Op≠15→i.Op≠17→i.Args.length=2)∧i.Args.length≤4:=by
 obtain⟨h1,h2,h3⟩:=h
 by_cases e1:i.Op=1
 ·have e:Cz i.Op=(0,0):=by unfold Cz;rw[if_pos e1]
  rw[e] at h2 h3;simp only at h2 h3
  exact⟨fun h=>by omega,fun h=>absurd e1 h,by omega⟩
 by_cases e2:i.Op=15
 ·have e:Cz i.Op=(1,1):=by unfold Cz;rw[if_neg e1,if_pos e2]
  rw[e] at h2 h3;simp only at h2 h3
  exact⟨fun h=>by omega,fun _ h=>absurd e2 h,by omega⟩
 by_cases e3:i.Op=17
 ·have e:Cz i.Op=(0,4):=by unfold Cz;rw[if_neg e1,if_neg e2,if_pos e3]
  rw[e] at h2 h3;simp only at h2 h3
  exact⟨fun h=>by omega,fun _ _ h=>absurd e3 h,by omega⟩
 have e:Cz i.Op=(2,2):=by unfold Cz;rw[if_neg e1,if_neg e2,if_neg e3]
 rw[e] at h2 h3;simp only at h2 h3
 exact⟨fun h=>absurd h e2,fun _ _ _=>by omega,by omega⟩
def stE(en st ss:Int):Int:=if en=0∧ss≤st then 3 else en
def stV(en va st ss:Int):Int:=if en=0∧ss≤st then 0 else va
def stB(en st ss:Int):Bool:=decide (stE en st ss=0)
def stS(en st ss:Int):Int:=if stE en st ss=0 then st+1 else st
theorem G7{en st ss:Int}(h:stB en st ss=true):en=0∧st<ss∧stE en st ss=0∧stS en st ss=st+1:=by
 have h1:stE en st ss=0:=by simpa[stB] using h
 unfold stE at h1
 split at h1
 ·omega
 ·refine⟨h1,by omega,?_,?_⟩
  ·unfold stE;rw[if_neg (by assumption)];exact h1
  ·have e:stE en st ss=0:=by unfold stE;rw[if_neg (by assumption)];exact h1
   unfold stS;rw[if_pos e]
theorem G8{en st ss:Int}(h:stB en st ss=false):stE en st ss≠0∧stS en st ss=st:=by
 have h1:stE en st ss≠0:=by simpa[stB] using h
 exact⟨h1,by unfold stS;rw[if_neg h1]⟩
structure RSt where
 V:Int→Int
 en:Int
 va:Int
 me:List Int
 cl:List D.Event
 st:Int
 an:List Int
def Es(N:Int)(s:RSt):RSt:={ s with en:=stE s.en s.st N,va:=stV s.en s.va s.st N,st:=stS s.en s.st N }
def Fd(N:Int)(s:RSt):Bool:=stB s.en s.st N
def Yf(i:D.Ins)(s:RSt):RSt:=⟨Ag i s.V s.me s.an,Ab i s.V s.me s.en,Ac i s.V s.me s.va,Ai i s.V s.me,Ah i s.V s.cl,s.st,Di i s.an⟩
def Cy(N:Int):List D.Ins→RSt→RSt×Bool
 | [],s=>(s,true)
 | i::l,s=>if Fd N s=true then Cy N l (Yf i (Es N s)) else (Es N s,false)
def Iz(t:D.Term)(s:RSt):RSt:={ s with en:=Au t s.en,va:=Bd t s.V s.va }
def Fy(fr:Int)(l:List D.Phi)(s:RSt):RSt:={ s with V:=Qy fr l s.V }
def Fj(bs:List D.Block)(N:Int):Nat→Int→Int→RSt→RSt
 | 0,_,_,s=>s
 | k+1,a,fr,s =>
  if (Cy N (ix bs a.toNat).Ins (Fy fr (ix bs a.toNat).Phis s)).2=true then
   (if Fd N (Cy N (ix bs a.toNat).Ins (Fy fr (ix bs a.toNat).Phis s)).1=true then
    (if (Iz (ix bs a.toNat).Term (Es N (Cy N (ix bs a.toNat).Ins (Fy fr (ix bs a.toNat).Phis s)).1)).en=0 then
     Fj bs N k (As (ix bs a.toNat).Term (Cy N (ix bs a.toNat).Ins (Fy fr (ix bs a.toNat).Phis s)).1.V) a (Iz (ix bs a.toNat).Term (Es N (Cy N (ix bs a.toNat).Ins (Fy fr (ix bs a.toNat).Phis s)).1))
    else Iz (ix bs a.toNat).Term (Es N (Cy N (ix bs a.toNat).Ins (Fy fr (ix bs a.toNat).Phis s)).1))
   else Es N (Cy N (ix bs a.toNat).Ins (Fy fr (ix bs a.toNat).Phis s)).1)
  else (Cy N (ix bs a.toNat).Ins (Fy fr (ix bs a.toNat).Phis s)).1
def Jy(s:RSt):D.Outcome:=⟨s.en,s.va,s.me,s.cl,s.st⟩
def Mz(l:List Int):Nat→Int→Int
 | 0=>fun _=>0
 | k+1=>Bl (Mz l k) k (ix l k)
def Gy(f:D.Func)(i:D.Input):List Int:=i.Args.take (Int.toNat (min (i.Args.length:Int) f.Params))
def FZ(f:D.Func)(i:D.Input):RSt:=⟨Mz (Gy f i) (Gy f i).length,0,0,Kr i,[],0,i.Answers⟩
def En(f:D.Func)(i:D.Input):D.Outcome:=Jy (Fj f.Blocks i.Steps (Int.toNat i.Steps+1) 0 (-1) (FZ f i))
section
variable{bs:List D.Block}{N a fr:Int}{k:Nat}{s s':RSt}
theorem BX(h:Cy N (ix bs a.toNat).Ins (Fy fr (ix bs a.toNat).Phis s)=(s',false))(hk:0<k):Fj bs N k a fr s=s':=by
 obtain⟨j,rfl⟩:∃j,k=j+1:=⟨k-1,by omega⟩
 rw[Fj,h];simp
theorem BY(h:Cy N (ix bs a.toNat).Ins (Fy fr (ix bs a.toNat).Phis s)=(s',true))(h2:Fd N s'=false)(hk:0<k):Fj bs N k a fr s=Es N s':=by
 obtain⟨j,rfl⟩:∃j,k=j+1:=⟨k-1,by omega⟩
 rw[Fj,h];simp[h2]
theorem CA(h:Cy N (ix bs a.toNat).Ins (Fy fr (ix bs a.toNat).Phis s)=(s',true))(h2:Fd N s'=true)(h3:¬(Iz (ix bs a.toNat).Term (Es N s')).en=0)(hk:0<k):Fj bs N k a fr s=Iz (ix bs a.toNat).Term (Es N s'):=by
 obtain⟨j,rfl⟩:∃j,k=j+1:=⟨k-1,by omega⟩
 rw[Fj,h];simp[h2,h3]
theorem BZ(h:Cy N (ix bs a.toNat).Ins (Fy fr (ix bs a.toNat).Phis s)=(s',true))(h2:Fd N s'=true)(h3:(Iz (ix bs a.toNat).Term (Es N s')).en=0)(hk:0<k):Fj bs N k a fr s=Fj bs N (k-1) (As (ix bs a.toNat).Term s'.V) a (Iz (ix bs a.toNat).Term (Es N s')):=by
 obtain⟨j,rfl⟩:∃j,k=j+1:=⟨k-1,by omega⟩
 rw[Fj,h];simp[h2,h3]
theorem MK{l:List D.Ins}{j:Nat}{R:RSt×Bool}(h:R=Cy N (l.drop j) s)(hj:j<l.length)(h2:Fd N s=true):R=Cy N (l.drop (j+1)) (Yf (ix l j) (Es N s)):=by
 rw[h,Hf hj,Cy,if_pos h2]
theorem V3{l:List D.Ins}{j:Nat}{R:RSt×Bool}(h:R=Cy N (l.drop j) s)(hj:j<l.length)(h2:Fd N s=false):R=(Es N s,false):=by
 rw[h,Hf hj,Cy,if_neg (by rw[h2];decide)]
theorem Pj{l:List D.Ins}{j:Nat}{R:RSt×Bool}(h:R=Cy N (l.drop j) s)(hj:l.length≤j):R=(s,true):=by rw[h,List.drop_of_length_le hj,Cy]
end
theorem Sj{t:D.Term}{V:Int→Int}(h:∃s,shM t.Kind=some s∧(s.1≤(t.Args.length:Int)∧(t.Args.length:Int)≤s.2.1)∧(s.2.2.1≤(t.To.length:Int)∧(t.To.length:Int)≤s.2.2.2)){en:Int}(he:Au t en=0):As t V∈t.To:=by
 obtain⟨h0,h1,h2,h3,h4⟩:=Wm h
 unfold Au at he
 split at he
 ·rename_i hk
  unfold As
  rcases hk with hk|hk|hk
  ·have:=(h1 hk).1
   rw[if_pos hk];exact Ax (by omega)
  ·have:=(h2 hk).1
   rw[if_neg (by omega),if_pos hk]
   split
   ·exact Ax (by omega)
   ·exact Ax (by omega)
  ·have:=(h3 hk).1
   have hu:=u32_nn (ix (wT t V) 0)
   rw[if_neg (by omega),if_neg (by omega),if_pos hk]
   exact Ax (by omega)
 ·split at he<;>omega
theorem GoodF.phi_from{f:D.Func}(hG:GoodF f){b:Nat}(hb:b<f.Blocks.length){t:Int}(ht:t∈(ix f.Blocks b).Term.To):∀p∈(ix f.Blocks t.toNat).Phis,(b:Int)∈p.In.map (fun x=>x.From):=fun p hp=>by
 have h1:=hG.to b hb t ht
 have h2:=hG.fr t.toNat (by omega) p hp
 rw[h2.2,M6]
 unfold prG
 have hc:ix (Bn (Bh f)) b=Gg (ix f.Blocks b).Term.To f.Blocks.length:=by
  unfold Bn;rw[Ia (by rw[Jl];exact hb),Jl]
  unfold Bh;rw[Ia hb,Xx]
 rw[hc,Pn]
 exact⟨by rw[Int.toNat_of_nonneg (by omega)];exact ht,by omega⟩
theorem GoodF.phi0{f:D.Func}(hG:GoodF f){fr:Int}:∀p∈(ix f.Blocks (Int.toNat 0)).Phis,fr∈p.In.map (fun x=>x.From):=fun p hp=>by
 have:=(hG.fr 0 hG.len.1 p hp).1
 omega
theorem Y8(i:D.Ins)(V:Int→Int)(me:List Int):(Ai i V me).length=me.length:=by
 unfold Ai;split
 ·exact FW _ _ _
 ·rfl
theorem Z0(i:D.Ins)(V:Int→Int)(cl:List D.Event):(Ah i V cl).length≤cl.length+1:=by
 unfold Ah;split
 ·simp
 ·omega
theorem GB{en st ss:Int}(h:0≤en∧en≤3):0≤stE en st ss∧stE en st ss≤3:=by unfold stE;split<;>omega
theorem Ov{en va st ss:Int}(h:IntKind.i32.wrap va=va):IntKind.i32.wrap (stV en va st ss)=stV en va st ss:=by unfold stV;split;decide;exact h
theorem G1{t:D.Term}{en:Int}(h:0≤en∧en≤3):0≤Au t en∧Au t en≤3:=by unfold Au;split;exact h;split<;>omega
theorem Y9{i:D.Ins}{V:Int→Int}{me:List Int}{en:Int}(h:0≤en∧en≤3):0≤Ab i V me en∧Ab i V me en≤3:=by unfold Ab;split;exact h;omega
theorem Y6{i:D.Ins}{V:Int→Int}{me:List Int}{va:Int}(h:IntKind.i32.wrap va=va):IntKind.i32.wrap (Ac i V me va)=Ac i V me va:=by
 unfold Ac;split
 ·exact h
 ·unfold Ae
  repeat' split
  all_goals decide
theorem EJ{t:D.Term}{V:Int→Int}(hV:∀k,IntKind.i32.wrap (V k)=V k):IntKind.i32.wrap (ix (wT t V) 0)=ix (wT t V) 0:=by
 unfold wT
 cases h:t.Args with
 | nil=>rfl
 | cons a l=>rw[List.map_cons,List.cons_append,Fq];exact hV a
theorem Sk{t:D.Term}{V:Int→Int}{va:Int}(h:IntKind.i32.wrap va=va)(hV:∀k,IntKind.i32.wrap (V k)=V k)(hi:IntKind.i32.wrap t.Imm=t.Imm):IntKind.i32.wrap (Bd t V va)=Bd t V va:=by
 unfold Bd;split
 ·exact h
 ·split
  ·exact EJ hV
  ·exact hi
theorem V5{N:Int}{l:List D.Ins}{j:Nat}{R:RSt×Bool}{V:Int→Int}{en va st:Int}{me an:List Int}{cl:List D.Event}(h:R=Cy N (l.drop j) ⟨V,en,va,me,cl,st,an⟩)(hj:j<l.length)(h2:Fd N ⟨V,en,va,me,cl,st,an⟩=true) :
  R=Cy N (l.drop (j+1)) ⟨Ag (ix l j) V me an,Ab (ix l j) V me (stE en st N),Ac (ix l j) V me (stV en va st N),Ai (ix l j) V me,Ah (ix l j) V cl,stS en st N,Di (ix l j) an⟩:=by
 have h3:=MK h hj h2
 have e:Yf (ix l j) (Es N ⟨V,en,va,me,cl,st,an⟩)=⟨Ag (ix l j) V me an,Ab (ix l j) V me (stE en st N),Ac (ix l j) V me (stV en va st N),Ai (ix l j) V me,Ah (ix l j) V cl,stS en st N,Di (ix l j) an⟩:=rfl
 rw[e] at h3;exact h3
theorem Sc:Ent Tryz.prog 101:=⟨_,Tryz.func101,by kernel_rfl,by kernel_rfl⟩
theorem Gz:Fld Tryz.prog 115 1 1:=⟨_,_,Tryz.underlying115,rfl,rfl,5,(by unfold Sz;kernel_rfl),by decide⟩
theorem TY:Fld Tryz.prog 115 3 7:=⟨_,_,Tryz.underlying115,rfl,rfl,1,(by unfold Sz;kernel_rfl),by decide⟩
theorem Qw{g0:Nat}{v0 m0 c0 a0:Value}{e0 x0 st0 ss0:Int}(kd:Int)(x:Int)(ov:v0.oneCell'=true)(om:m0.oneCell'=true)(oc:c0.oneCell'=true)(oa:a0.oneCell'=true):Tr Tryz.prog 101 #[.pointer (some ⟨g0,0,none⟩),.int .i64 kd,.int .i32 x] [] [bx g0 115 [v0,.int .i64 e0,.int .i32 x0,m0,c0,.int .i64 st0,a0,.int .i64 ss0]] (fun _:Unit => .tuple #[]) (fun _=>[]) (fun _ _=>[bx g0 115 [v0,.int .i64 kd,.int .i32 x,m0,c0,.int .i64 st0,a0,.int .i64 ss0]]):=by
 refine Az (args:=[.pointer (some ⟨g0,0,none⟩),.int .i64 kd,.int .i32 x]) Tryz.func101 rfl rfl rfl fun w0 X=>?_
 refine jr (jm Z (jm Z (jm Z (jm Z (js (Ak Z) (js (jf Gz Z) (js (jf Lw Z) (jst k0 Z3 Z Z Z s1 (js (Ak Z) (js (jf Gz Z) (js (jf Qe Z) ?_)))))))))))
 refine jst k0 Z21 Z Z Z s2 (jn ?_)
 exact jd0 Z () Z dn (fun _ _=>(kc k0 kn))
theorem L9{g0:Nat}{v0 m0 c0 a0:Value}{e0 x0 st0 ss0:Int}(ov:v0.oneCell'=true)(om:m0.oneCell'=true)(oc:c0.oneCell'=true)(oa:a0.oneCell'=true)(hs9:0≤st0∧st0≤1000000000):Tr Tryz.prog 49 #[.pointer (some ⟨g0,0,none⟩)] [] [bx g0 115 [v0,.int .i64 e0,.int .i32 x0,m0,c0,.int .i64 st0,a0,.int .i64 ss0]] (fun _:Unit => .bool (stB e0 st0 ss0)) (fun _=>[]) (fun _ _=>[bx g0 115 [v0,.int .i64 (stE e0 st0 ss0),.int .i32 (stV e0 x0 st0 ss0),m0,c0,.int .i64 (stS e0 st0 ss0),a0,.int .i64 ss0]]):=by
 refine Az (args:=[.pointer (some ⟨g0,0,none⟩)]) Tryz.func49 rfl rfl rfl fun w0 X=>?_
 refine jq (jr (ja Z (jn (jx (jq (jq (Gh Bi (by kernel_rfl) (jt (jmv Z) (jt (Ak Z) (jt (jf Gz Z) (jt (jf Lw Z) ?_)))))))))))
 refine jt (jl k0 O3 Z Z) (jt (Ao Z Z) (jt (jmv Z) (jtg Z Z (.t _) (fun hg=>jmv Z) (jtg Z Z (.t _) (fun hg=>Ak (evg Z hg)) (jtg Z Z (.t _) (fun hg=>jf Gz (evg Z hg)) (jtg Z Z (.t _) (fun hg=>jf Lv (evg Z hg)) (jtg Z Z (.t _) (fun hg=>jl k0 O3 (evg Z hg) Z) (jtg Z Z (.t _) (fun hg=>jmv Z) (jtg Z Z (.t _) (fun hg=>Ak (evg Z hg)) (jtg Z Z (.t _) (fun hg=>jf TY (evg Z hg)) (jtg Z Z (.t _) (fun hg=>jl k0 O3 (evg Z hg) Z) ?_)))))))))))
 refine jtg Z Z (.t _) (fun hg=>Gj (evg Z hg) (evg Z hg)) (jt (Cf Z Z) (jdn (jx ?_)))
 refine jif Z (fun hc1=>?_) (fun hc1=>?_)
 refine jr (jm Z (jc Sc Z Z (Qw _ _ ov om oc oa) dn (kc k0 kn) (fun _=>p0) (fun _=>p1) fun _=>jn (jx (jq (jq (jr (jm Z (js (Ak Z) (js (jf Gz Z) (js (jf Lw Z) ?_))))))))))
 refine js (jl k0 O3 Z Z) (js (Ga Z Z) (jn (jx ?_)))
 refine jif Z (fun hc2=>?_) (fun hc2=>?_)
 refine jq (jr (ja Z (jn (jx (jrt (jtr ?_))))))
 have q1:stE e0 st0 ss0=3:=by simp_all[stE,stV,stB,stS]<;>omega
 have q2:stV e0 x0 st0 ss0=0:=by simp_all[stE,stV,stB,stS]<;>omega
 have q4:stB e0 st0 ss0=false:=by simp_all[stE,stV,stB,stS]<;>omega
 have q3:stS e0 st0 ss0=st0:=by simp_all[stE,stV,stB,stS]<;>omega
 simp only[q1,q2,q3,q4]
 exact jr1 Z Z () Z dn (fun _ _=>(kc k0 kn))
 exact absurd hc2 (by simp)
 refine jsk (jx (jq (jq (jr (jm Z (js (Ak Z) (js (jf Gz Z) (js (jf Lw Z) (js (jl k0 O3 Z Z) (js (Ga Z Z) (jn ?_)))))))))))
 refine jx ?_
 refine jif Z (fun hc3=>?_) (fun hc3=>?_)
 refine jq (jr (ja Z (jn (jx (jrt (jtr ?_))))))
 have q1:stE e0 st0 ss0=e0:=by simp_all[stE,stV,stB,stS]<;>omega
 have q2:stV e0 x0 st0 ss0=x0:=by simp_all[stE,stV,stB,stS]<;>omega
 have q4:stB e0 st0 ss0=false:=by simp_all[stE,stV,stB,stS]<;>omega
 have q3:stS e0 st0 ss0=st0:=by simp_all[stE,stV,stB,stS]<;>omega
 simp only[q1,q2,q3,q4]
 exact jr1 Z Z () Z dn (fun _ _=>(kc k0 kn))
 refine jsk (jx (jq (jr (jm Z (js (Ak Z) (js (jf Gz Z) (js (jf Lv Z) (js (jl k0 O3 Z Z) (js (Al Z Z (by omega)) (js (Ak Z) (js (jf Gz Z) ?_)))))))))))
 refine js (jf Lv Z) (jst k0 Z3 Z Z Z s5 (jn (jx (jq (jr (ja Z (jn (jx (jrt ?_)))))))))
 have q1:stE e0 st0 ss0=e0:=by simp_all[stE,stV,stB,stS]<;>omega
 have q2:stV e0 x0 st0 ss0=x0:=by simp_all[stE,stV,stB,stS]<;>omega
 have q4:stB e0 st0 ss0=true:=by simp_all[stE,stV,stB,stS]<;>omega
 have q3:stS e0 st0 ss0=st0+1:=by simp_all[stE,stV,stB,stS]<;>omega
 simp only[q1,q2,q3,q4]
 exact jr1 Z Z () Z dn (fun _ _=>(kc k0 kn))
end Go.Proofs.YtmfkkodnghambaaGreat
namespace Go.Proofs.YtmfkkodnghambaaGreat
open Go.JE
abbrev Dv:=@Tryz.underlying113
theorem DX:Ent Tryz.prog 102:=⟨_,Tryz.func102,by kernel_rfl,by kernel_rfl⟩
theorem Jr:Fld Tryz.prog 115 0 0:=⟨_,_,Tryz.underlying115,rfl,rfl,1,(by unfold Sz;kernel_rfl),by decide⟩
theorem Ez:One Tryz.prog 112:=⟨_,Tryz.underlying112,rfl⟩
theorem Ey:One Tryz.prog 113:=⟨_,Tryz.underlying113,rfl⟩
theorem J21:(Tryz.prog.info? 21).bind (·.zero)=some (.int .i32 0):=by kernel_rfl
theorem L8{g0 gm:Nat}{V:Int→Int}{m0 c0 a0:Value}{e0 x0 st0 ss0:Int}{a1:Value}{l:List Int}(om:m0.oneCell'=true)(oc:c0.oneCell'=true)(oa:a0.oneCell'=true):Tr Tryz.prog 102 #[.pointer (some ⟨g0,0,none⟩),a1] [dv (rL (rI .i64)) a1 l] [bx g0 115 [.map (some gm),.int .i64 e0,.int .i32 x0,m0,c0,.int .i64 st0,a0,.int .i64 ss0],vm gm V] (fun c:Value=>c) (fun _=>[]) (fun B c=>[bx g0 115 [.map (some gm),.int .i64 e0,.int .i32 x0,m0,c0,.int .i64 st0,a0,.int .i64 ss0],vm gm V,gl B (rI .i32) 21 c (l.map V)]):=by
 refine Az (args:=[.pointer (some ⟨g0,0,none⟩),a1]) Tryz.func102 rfl rfl rfl fun w0 X=>?_
 refine cvw k1 fun hvw=>jq (jr (ja Z (jn (jx (jq (jq (jr (jm Z (jdq d0 fun q1 w1=>js (jln U22 d0 Z) ?_)))))))))
 refine jm Z (jn (jx (jb (cnl (r:=(rI .i32)) (E:=21) ?_))))
 refine jlp (u3 fun(k:Nat) (ws:List Int) (vo:Value)=>⟨k≤l.length∧ws=(l.take k).map V,[dv (rL (rI .i64)) a1 l],[gl X.n (rI .i32) 21 vo ws,bx g0 115 [.map (some gm),.int .i64 e0,.int .i32 x0,m0,c0,.int .i64 st0,a0,.int .i64 ss0],vm gm V],[(0,.pointer (some ⟨g0,0,none⟩)),(4,vo),(7,a1),(8,.int .i64 (↑l.length)),(9,.int .i64 (↑k))],l.length-k⟩) (0,[],.slice none 0 0) ⟨by dsimp only;omega,rfl⟩ (dc d0 dn) (kd (kc k0 kn)) ⟨Z,Z,Z,Z,eqI (by omega),trivial⟩ ?_
 rintro⟨k,ws,vo⟩;dsimp only[u3];rintro⟨hk,hws⟩
 refine cgo k0 fun w2=>?_
 have hwl:ws.length=k:=by rw[hws];simp;omega
 refine jq (jr (js (Ar Z Z) (jn (jx (jq ?_)))))
 refine jif Z (fun hc1=>?_) (fun hc1=>?_)
 refine jsk (jx (jq (jb (jq (jr (js (jix U22 Z3 d0 Z Z Z (by omega)) (js (jlI (dix d0 k (by omega)) O3 Z) (ja Z (jn (jx (jr ?_)))))))))))
 refine jm Z (jm Z (js (Ak Z) (js (jf Jr Z) (js (jl k1 Ey Z Z) (jm Z (js (jvk Dv U3 J21 k2 Z Z) (Gk U29 I21 (by decide) Z Z k0 Z (wI (wp (hvw (ix l k)))) (by omega) (fun _=>Z) fun v21 _ w3=>ja Z (jn (jbn (jx ?_))))))))))
 refine jr (js (Al Z Z (by omega)) (jm Z (jn ?_)))
 exact jag (k+1,ws++[V (ix l k)],v21) ⟨by dsimp only;omega,by dsimp only;rw[hws,Ej (by omega),List.map_append];rfl⟩ (dc d0 dn) (kd (kc k0 kn)) ⟨Z,Z,Z,Z,eqI (by omega),trivial⟩
 refine jex (jtx (jtx (jbh (jx (jq (jr (jm Z (ja Z (jn (jx (jrt ?_)))))))))))
 exact jr1 Z Z vo Z dn (fun _ hB=>(kc k1 (kc k1 (klc (by rw[hws,List.take_of_length_le (by omega)]) hB k0 kn))))
theorem Qv{g0:Nat}{v0 m0 c0 a0:Value}{e0 x0 st0 ss0:Int}(v:Int)(ok:Bool){g2:Nat}(ov:v0.oneCell'=true)(om:m0.oneCell'=true)(oc:c0.oneCell'=true)(oa:a0.oneCell'=true):Tr Tryz.prog 103 #[.int .i32 v,.bool ok,.pointer (some ⟨g2,0,none⟩)] [] [bx g0 115 [v0,.int .i64 e0,.int .i32 x0,m0,c0,.int .i64 st0,a0,.int .i64 ss0],bx g2 112 [.pointer (some ⟨g0,0,none⟩)]] (fun _:Unit => .int .i32 v) (fun _=>[]) (fun _ _=>[bx g0 115 [v0,.int .i64 (if ok=true then e0 else 2),.int .i32 (if ok=true then x0 else -2),m0,c0,.int .i64 st0,a0,.int .i64 ss0],bx g2 112 [.pointer (some ⟨g0,0,none⟩)]]):=by
 refine Az (args:=[.int .i32 v,.bool ok,.pointer (some ⟨g2,0,none⟩)]) Tryz.func103 rfl rfl rfl fun w0 X=>?_
 refine jq (jr (ja Z (jn (jx (jq (jq (jr (jm Z (js (Dq Z) (jn (jx ?_)))))))))))
 refine jif Z (fun hc1=>?_) (fun hc1=>?_)
 refine jr (js (jl k1 Ez Z Z) (jc Sc Z Z (Qw _ _ ov om oc oa) dn (kc k0 kn) (fun _=>p0) (fun _=>p1) fun _=>jn (jx (jq (jr (jm Z (ja Z (jn (jx (jrt ?_))))))))))
 simp only[show ok=false from by simpa using hc1]
 exact jr1 Z Z () Z dn (fun _ _=>(kd kn))
 refine jsk (jx (jq (jr (jm Z (ja Z (jn (jx (jrt ?_))))))))
 simp only[show ok=true from by simpa using hc1]
 exact jr1 Z Z () Z dn (fun _ _=>(kd kn))
theorem ID{g0 gm:Nat}{V:Int→Int}{m0 c0 a0:Value}{e0 x0 st0 ss0:Int}{a1a a1b:Value}{t:D.Term}(om:m0.oneCell'=true)(oc:c0.oneCell'=true)(oa:a0.oneCell'=true)(hT:∃s,shM t.Kind=some s∧(s.1≤(t.Args.length:Int)∧(t.Args.length:Int)≤s.2.1)∧(s.2.2.1≤(t.To.length:Int)∧(t.To.length:Int)≤s.2.2.2)):Tr Tryz.prog 51 #[.pointer (some ⟨g0,0,none⟩),vTerm t (a1a,a1b)] [da Bf (vTerm t (a1a,a1b)) t] [bx g0 115 [.map (some gm),.int .i64 e0,.int .i32 x0,m0,c0,.int .i64 st0,a0,.int .i64 ss0],vm gm V] (fun _:Unit => .int .i64 (As t V)) (fun _=>[]) (fun _ _=>[bx g0 115 [.map (some gm),.int .i64 (Au t e0),.int .i32 (Bd t V x0),m0,c0,.int .i64 st0,a0,.int .i64 ss0],vm gm V]):=by
 refine Az (args:=[.pointer (some ⟨g0,0,none⟩),vTerm t (a1a,a1b)]) Tryz.func51 rfl rfl rfl fun w0 X=>?_
 refine cvw k1 fun hvw=>?_
 have hT9:=Wm hT
 obtain⟨hk0,hk1,hk2,hk3,hka⟩:=hT9
 have hun:=u32_nn (ix (List.map V t.Args++[0]) 0)
 have hwl:(List.map V t.Args++[0]).length=t.Args.length+1:=by simp
 refine jq (jr (Cm Z Z fun g3=>ja Z (jn (jx (jq (jr (jm Z (js (jf Jq Z) (js (jl k0 O22 Z Z) (jc DX Z Z (L8 om oc oa) (dc (Bf.c_Args d0) dn) (kc k1 (kc k1 kn)) (fun _=>p0) (fun _=>p3) fun v10=>?_))))))))))
 refine jgo k2 fun w1=>Gk U29 I21 (by decide) Z Z k2 Z (wI (wl 0)) (by(try simp)<;>omega) (fun _=>Z) fun v12 _ w2=>ja Z (jn (jx (jq (jq (jr (js (jf Lu Z) (js (jl k3 O3 Z Z) (jn (jx ?_)))))))))
 refine jb (jq (jr (js (Ao Z Z) (ja Z (jn (jx ?_))))))
 refine jif Z (fun hc1=>?_) (fun hc1=>?_)
 have hk1:=hk1 hc1
 refine jq (jr (js (jf Ei Z) (js (jl k3 O22 Z Z) (jdq (Bf.c_To d0) fun q3 w3=>js (jix (i:=0) U22 Z3 (Bf.c_To d0) Z Z Z (by omega)) (js (jlI (dix (Bf.c_To d0) 0 (by omega)) O3 Z) (ja Z (jn (jx (jrt (jbr ?_))))))))))
 refine jtr ?_
 have q1:As t V=ix t.To 0:=by first|(simp[As,Au,Bd,wT,hc1];done)|(unfold As;(repeat' split)<;>first|rfl|(exfalso;omega)|(simp_all[wT];done))|skip
 have q2:Au t e0=e0:=by first|(simp[As,Au,Bd,wT,hc1];done)|(unfold Au;(repeat' split)<;>first|rfl|(exfalso;omega)|(simp_all[wT];done))|skip
 have q3:Bd t V x0=x0:=by first|(simp[As,Au,Bd,wT,hc1];done)|(unfold Bd;(repeat' split)<;>first|rfl|(exfalso;omega)|(simp_all[wT];done))|skip
 simp only[q1,q2,q3]
 exact jr1 Z Z () Z dn (fun _ _=>(kc k1 (kc k1 kn)))
 refine jq (jr (js (Ao Z Z) (ja Z (jn (jx ?_)))))
 refine jif Z (fun hc2=>?_) (fun hc2=>?_)
 have hk2:=hk2 hc2
 refine jq (jq (jr (jm Z (js (jig (i:=0) U29 Z21 k0 Z Z Z (by first|omega|(simp<;>omega))) (js (jgI k0 (by first|omega|(simp<;>omega)) O21 Z) (js (Ga Z Z) (jn (jx ?_))))))))
 refine jif Z (fun hc3=>?_) (fun hc3=>?_)
 refine jq (jr (js (jf Ei Z) (js (jl k3 O22 Z Z) (jdq (Bf.c_To d0) fun q4 w4=>js (jix (i:=0) U22 Z3 (Bf.c_To d0) Z Z Z (by omega)) (js (jlI (dix (Bf.c_To d0) 0 (by omega)) O3 Z) (ja Z (jn (jx (jrt (jtr ?_))))))))))
 refine jbr (jtr ?_)
 have q1:As t V=ix t.To 0:=by first|(simp[As,Au,Bd,wT,hc1,hc2,hc3];done)|(unfold As;(repeat' split)<;>first|rfl|(exfalso;omega)|(simp_all[wT];done))|skip
 have q2:Au t e0=e0:=by first|(simp[As,Au,Bd,wT,hc1,hc2,hc3];done)|(unfold Au;(repeat' split)<;>first|rfl|(exfalso;omega)|(simp_all[wT];done))|skip
 have q3:Bd t V x0=x0:=by first|(simp[As,Au,Bd,wT,hc1,hc2,hc3];done)|(unfold Bd;(repeat' split)<;>first|rfl|(exfalso;omega)|(simp_all[wT];done))|skip
 simp only[q1,q2,q3]
 exact jr1 Z Z () Z dn (fun _ _=>(kc k1 (kc k1 kn)))
 refine jsk (jx (jq (jr (js (jf Ei Z) (js (jl k3 O22 Z Z) (jdq (Bf.c_To d0) fun q5 w5=>js (jix (i:=1) U22 Z3 (Bf.c_To d0) Z Z Z (by omega)) (js (jlI (dix (Bf.c_To d0) 1 (by omega)) O3 Z) (ja Z (jn (jx ?_))))))))))
 refine jrt (jbr (jtr ?_))
 have q1:As t V=ix t.To 1:=by first|(simp[As,Au,Bd,wT,hc1,hc2,hc3];done)|(unfold As;(repeat' split)<;>first|rfl|(exfalso;omega)|(simp_all[wT];done))|skip
 have q2:Au t e0=e0:=by first|(simp[As,Au,Bd,wT,hc1,hc2,hc3];done)|(unfold Au;(repeat' split)<;>first|rfl|(exfalso;omega)|(simp_all[wT];done))|skip
 have q3:Bd t V x0=x0:=by first|(simp[As,Au,Bd,wT,hc1,hc2,hc3];done)|(unfold Bd;(repeat' split)<;>first|rfl|(exfalso;omega)|(simp_all[wT];done))|skip
 simp only[q1,q2,q3]
 exact jr1 Z Z () Z dn (fun _ _=>(kc k1 (kc k1 kn)))
 refine jq (jr (js (Ao Z Z) (ja Z (jn (jx ?_)))))
 refine jif Z (fun hc4=>?_) (fun hc4=>?_)
 have hk3:=hk3 hc4
 refine jq (jr (js (jf Ei Z) (js (jl k3 O22 Z Z) (jdq (Bf.c_To d0) fun q6 w6=>js (jln U22 (Bf.c_To d0) Z) (js (Gw Z Z (by omega)) (ja Z (jn (jx (jq (Gh Bi (by kernel_rfl) ?_))))))))))
 refine jt (jf Ei Z) (jt (jl k3 O22 Z Z) (jt (jmv Z) (jt (jig (i:=0) U29 Z21 k0 Z Z Z (by first|omega|(simp<;>omega))) (jt (jgI k0 (by first|omega|(simp<;>omega)) O21 Z) (jt (jco U21 Gc Z Z) (jt (jmv Z) (jt (jco U3 Gc Z (IntWalk.u32_in _ (by omega))) (jt (Lo Z Z) (jt (jix (i:=(Int.toNat (min (IntKind.u32.wrap (ix ((List.map V t.Args)++[0]) 0)) ((↑(List.length t.To))-1)))) U22 Z3 (Bf.c_To d0) Z Z (by omega) (by omega)) (jt (jlI (dix (Bf.c_To d0) (Int.toNat (min (IntKind.u32.wrap (ix ((List.map V t.Args)++[0]) 0)) ((↑(List.length t.To))-1))) (by omega)) O3 Z) (jt (jas Z) ?_)))))))))))
 refine jdn (jx (jrt (jbr (jtr ?_))))
 have q1:As t V=ix t.To (Int.toNat (min (IntKind.u32.wrap (ix ((List.map V t.Args)++[0]) 0)) ((((List.length t.To:Nat):Int))-1))):=by first|(simp[As,Au,Bd,wT,hc1,hc2,hc4];done)|(unfold As;(repeat' split)<;>first|rfl|(exfalso;omega)|(simp_all[wT];done))|skip
 have q2:Au t e0=e0:=by first|(simp[As,Au,Bd,wT,hc1,hc2,hc4];done)|(unfold Au;(repeat' split)<;>first|rfl|(exfalso;omega)|(simp_all[wT];done))|skip
 have q3:Bd t V x0=x0:=by first|(simp[As,Au,Bd,wT,hc1,hc2,hc4];done)|(unfold Bd;(repeat' split)<;>first|rfl|(exfalso;omega)|(simp_all[wT];done))|skip
 simp only[q1,q2,q3]
 exact jr1 Z Z () Z dn (fun _ _=>(kc k1 (kc k1 kn)))
 refine jq (jr (js (Ao Z Z) (ja Z (jn (jx ?_)))))
 refine jif Z (fun hc5=>?_) (fun hc5=>?_)
 refine jr (jm Z (jm Z (js (jig (i:=0) U29 Z21 k0 Z Z Z (by first|omega|(simp<;>omega))) (js (jgI k0 (by first|omega|(simp<;>omega)) O21 Z) (jc Sc Z Z (Qw _ _ Z om oc oa) dn (kc k1 kn) (fun _=>p0) (fun _=>p1) fun _=>jn (jbn (jx (jq (jr (ja Z ?_))))))))))
 refine jn (jx (jrt ?_))
 have q1:As t V=0:=by first|(simp[As,Au,Bd,wT,hc1,hc2,hc4,hc5];done)|(unfold As;(repeat' split)<;>first|rfl|(exfalso;omega)|(simp_all[wT];done))|skip
 have q2:Au t e0=1:=by first|(simp[As,Au,Bd,wT,hc1,hc2,hc4,hc5];done)|(unfold Au;(repeat' split)<;>first|rfl|(exfalso;omega)|(simp_all[wT];done))|skip
 have q3:Bd t V x0=ix ((List.map V t.Args)++[0]) 0:=by first|(simp[As,Au,Bd,wT,hc1,hc2,hc4,hc5];done)|(unfold Bd;(repeat' split)<;>first|rfl|(exfalso;omega)|(simp_all[wT];done))|skip
 simp only[q1,q2,q3]
 exact jr1 Z Z () Z dn (fun _ _=>(kc k0 (kc k1 kn)))
 refine jr (jm Z (js (jf Zs Z) (js (jl k3 O21 Z Z) (jc Sc Z Z (Qw _ _ Z om oc oa) dn (kc k1 kn) (fun _=>p0) (fun _=>p1) fun _=>jn (jbn (jx (jq (jr (ja Z (jn ?_))))))))))
 refine jx (jrt ?_)
 have q1:As t V=0:=by first|(simp[As,Au,Bd,wT,hc1,hc2,hc4,hc5];done)|(unfold As;(repeat' split)<;>first|rfl|(exfalso;omega)|(simp_all[wT];done))|skip
 have q2:Au t e0=2:=by first|(simp[As,Au,Bd,wT,hc1,hc2,hc4,hc5];done)|(unfold Au;(repeat' split)<;>first|rfl|(exfalso;omega)|(simp_all[wT];done))|skip
 have q3:Bd t V x0=t.Imm:=by first|(simp[As,Au,Bd,wT,hc1,hc2,hc4,hc5];done)|(unfold Bd;(repeat' split)<;>first|rfl|(exfalso;omega)|(simp_all[wT];done))|skip
 simp only[q1,q2,q3]
 exact jr1 Z Z () Z dn (fun _ _=>(kc k0 (kc k1 kn)))
end Go.Proofs.YtmfkkodnghambaaGreat
namespace Go.Proofs.YtmfkkodnghambaaGreat
open Go.JE
theorem VW:Ent Tryz.prog 100:=⟨_,Tryz.func100,by kernel_rfl,by kernel_rfl⟩
theorem IH{x:D.In}{c:Int}{g1:Nat}:Tr Tryz.prog 100 #[vIn x (),.pointer (some ⟨g1,0,none⟩)] [da rIn (vIn x ()) x] [bx g1 3 [.int .i64 c]] (fun _:Unit => .bool (Eo c x)) (fun _=>[]) (fun _ _=>[bx g1 3 [.int .i64 c]]):=by
 refine Az (args:=[vIn x (),.pointer (some ⟨g1,0,none⟩)]) Tryz.func100 rfl rfl rfl fun w0 X=>?_
 refine jq (jr (Cm Z Z fun g2=>ja Z (jn (jx (jq (jr (js (jf Ng Z) (js (jl k0 O3 Z Z) (js (jl k1 O3 Z Z) (js (Ao Z Z) ?_))))))))))
 refine ja Z (jn (jx (jrt ?_)))
 exact jr1 Z Z () (congrArg Value.bool (Eq.symm (by rfl))) dn (fun _ _=>(kc k1 kn))
theorem IG{g0 gm:Nat}{V:Int→Int}{m0 c0 a0:Value}{e0 x0 st0 ss0:Int}{a1:Value}{l:List D.Phi}(fr:Int)(om:m0.oneCell'=true)(oc:c0.oneCell'=true)(oa:a0.oneCell'=true)(hp:∀p∈l,fr∈p.In.map (fun x=>x.From)):Tr Tryz.prog 48 #[.pointer (some ⟨g0,0,none⟩),a1,.int .i64 fr] [dv (rL Aw) a1 l] [bx g0 115 [.map (some gm),.int .i64 e0,.int .i32 x0,m0,c0,.int .i64 st0,a0,.int .i64 ss0],vm gm V] (fun _:Unit => .tuple #[]) (fun _=>[]) (fun _ _=>[bx g0 115 [.map (some gm),.int .i64 e0,.int .i32 x0,m0,c0,.int .i64 st0,a0,.int .i64 ss0],vm gm (Qy fr l V)]):=by
 refine Az (args:=[.pointer (some ⟨g0,0,none⟩),a1,.int .i64 fr]) Tryz.func48 rfl rfl rfl fun w0 X=>?_
 refine cvw k1 fun hvw=>jq (jr (Cm Z Z fun g5=>jn (jx (jq (jr (jnn fun g12=>ja Z (jn (jx ?_))))))))
 refine jq (jq (jr (jm Z (jdq d0 fun q1 w1=>js (jln U57 d0 Z) (jm Z (jn (jx (jb ?_))))))))
 refine jlp (u2 fun(k:Nat) (nx:List (Int×Int))=>⟨k≤l.length∧nx=Ms fr V (l.take k) [],[dv (rL Aw) a1 l],[nm g12 nx,bx g5 3 [.int .i64 fr],bx g0 115 [.map (some gm),.int .i64 e0,.int .i32 x0,m0,c0,.int .i64 st0,a0,.int .i64 ss0],vm gm V],[(0,.pointer (some ⟨g0,0,none⟩)),(5,.pointer (some ⟨g5,0,none⟩)),(6,.map (some g12)),(13,a1),(14,.int .i64 (↑l.length)),(15,.int .i64 (↑k))],l.length-k⟩) (0,[]) ⟨by dsimp only;omega,rfl⟩ (dc d0 dn) (kd (kd kn)) ⟨Z,Z,Z,Z,Z,eqI (by omega),trivial⟩ ?_
 rintro⟨k,nx⟩;dsimp only[u2];rintro⟨hk,hnx⟩
 refine jq (jr (js (Ar Z Z) (jn (jx (jq ?_)))))
 refine jif Z (fun hc1=>?_) (fun hc1=>?_)
 have hix:=Yh (hp _ (Ax (l:=l) (i:=k) (by omega)))
 refine jsk (jx (jq (jb (jq (jr (js (jix U57 Z65 d0 Z Z Z (by omega)) (jA Wt (jlA (dix d0 k (by omega)) A65 Z65 Z) fun c18=>Bo J65 Z fun g8=>jdq (Aw.c_In d0) fun q3 w3=>Bk k0 Z65 Z Z Z ⟨Z,w3.one,trivial⟩ (saf Z) (jn ?_))))))))
 refine jx (jq (jr (js (jf Fa Z) (js (jl k0 O63 Z Z) (js (Uj Z) (jcp E81 Z Z (PP (Eo fr) VW (fun x _ c=>Tr.it IH ir)) (dc (Aw.c_In d0) (dc (db dn) dn)) (kc k2 kn) p1 (ja Z (jn (jx (Bz false (.a 0 (.a 1 (.a 2 (.a 3 (.a 4 (.a 5 (.a 6 (.a 7 (.a 8 (.a 9 (.a 10 (.a 11 (.a 12 (.a 13 (.o 14 .e))))))))))))))) Bi (by kernel_rfl) (kc k1 (kc k2 (kc k2 kn))) fun F4=>jy Z (jmv Z) ?_))))))))))
 refine jy Z (jf Rz Z) (jy Z (jl k0 O3 Z Z) (jy Z (jmv Z) (jy Z (Ak Z) (jy Z (jf Jr Z) (jy Z (jl k1 Ey Z Z) (jy Z (jf Fa Z) (jy Z (jl k0 O63 Z Z) (jy Z (jmv Z) (jy Z (jix (i:=(Int.toNat (Dw ((ix l k).In) (Eo fr)))) U63 Hh (Aw.c_In d0) Z Z (by omega) (by omega)) (jy Z (jf Qi Z) (jy Z (jlI (rIn.A_Val (dix (Aw.c_In d0) (Int.toNat (Dw ((ix l k).In) (Eo fr))) (by omega))) O3 Z) ?_)))))))))))
 refine jy Z (jvk Dv U3 J21 k2 Z Z) (jyo Z (jnu Dv U3 k2 Z Z Z (jyn d0 (kc k2 (kc k2 (kc k2 kn))) (jyd (jbn (jx (jr (js (Al Z Z (by omega)) (jm Z (jn ?_))))))))))
 exact jag (k+1,upW nx ((ix l k).Dst) (V ((ix ((ix l k).In) (Int.toNat (Dw ((ix l k).In) (Eo fr)))).Val))) ⟨by dsimp only;omega,by dsimp only;rw[KE (by omega),←hnx]⟩ (dc d2 dn) (kd (kc k1 (kc k1 kn))) ⟨Z,Z,Z,Z,Z,eqI (by omega),trivial⟩
 have hnd:(nx.map (·.1)).Nodup:=by rw[hnx];exact Q5 _ _ (by simp)
 have hnw:∀p∈nx,IntKind.i32.wrap p.2=p.2:=by rw[hnx];exact AY (nx:=[]) hvw _ _ (fun p h=>by cases h)
 refine jex (jtx (jtx (jbh (jx (jq (jr (jm Z (jri Dv k0 Z fun g39=>jn (jx (jb ?_))))))))))
 refine jlp (u2 fun(vis:List Int) (V2:Int→Int)=>⟨(vis.Nodup∧∀y∈vis,y∈nx.map (·.1))∧V2=Nt nx vis V,[],[mit g39 g12 nx vis,bx g0 115 [.map (some gm),.int .i64 e0,.int .i32 x0,m0,c0,.int .i64 st0,a0,.int .i64 ss0],vm gm V2],[(0,.pointer (some ⟨g0,0,none⟩)),(39,.pointer (some ⟨g39,0,none⟩))],nx.length-vis.length⟩) ([],V) ⟨⟨by simp,by simp⟩,by dsimp only;funext j;simp[Nt]⟩ dn (kc k0 (kc k1 (kc k1 kn))) ⟨Z,Z,trivial⟩ ?_
 rintro⟨vis,V2⟩;dsimp only[u2];rintro⟨hv,hV2⟩
 refine jq (jr ?_)
 refine jni k0 Z (fun hd1=>?_) (fun y1 z1 hy1 hn1=>?_)
 refine js (Bs Z Z) (jn (jx (jq ?_)))
 refine jif Z (fun hc2=>?_) (fun hc2=>?_)
 exact absurd hc2 (by simp)
 refine jex (jtx (jtx (jbh ?_)))
 obtain rfl:V2=Qy fr l V:=by rw[hV2,KI hd1,hnx,List.take_of_length_le (by omega)];rfl
 exact jd0 Z () Z dn (fun _ _=>(kc k1 (kc k1 kn)))
 have hlt1:=FB hv.1 hv.2 hy1 hn1
 refine js (Bs Z Z) (jn (jx (jq ?_)))
 refine jif Z (fun hc3=>?_) (fun hc3=>?_)
 refine jsk (jx (jb (jq (jr (js (jei k0 hy1 Z) (js (Bs Z Z) (js (Bs Z Z) (ja Z (ja Z (jn (jx ?_)))))))))))
 refine jr (jm Z (js (Ak Z) (js (jf Jr Z) (js (jl k1 Ey Z Z) (jm Z (jm Z (jvu Dv U3 k2 Z Z Z (wp (hnw _ hy1)) (jn (jbn ?_)))))))))
 exact jag (vis++[y1],Bl V2 y1 z1) ⟨⟨FA hv.1 hn1,fun y h=>(List.mem_append.1 h).elim (hv.2 y) (fun h=>by simp at h;subst h;exact List.mem_map.2 ⟨_,hy1,rfl⟩)⟩,by dsimp only;rw[hV2];exact KH hnd hy1⟩ dn (kc k1 (kc k1 (kc k0 kn))) ⟨Z,Z,trivial⟩ (by dsimp only[u2];rw[List.length_append];simp;omega)
 exact absurd hc3 (by simp)
end Go.Proofs.YtmfkkodnghambaaGreat
namespace Go.Proofs.YtmfkkodnghambaaGreat
open Go.JE
theorem Sb:Ent Tryz.prog 103:=⟨_,Tryz.func103,by kernel_rfl,by kernel_rfl⟩
theorem Fl:Fld Tryz.prog 115 2 6:=⟨_,_,Tryz.underlying115,rfl,rfl,1,(by unfold Sz;kernel_rfl),by decide⟩
attribute [local simp] Ag Ab Ac Ai Ah Di Ae aI
theorem IK{g0 gm Bm Bc:Nat}{V:Int→Int}{mv cv av:Value}{me an:List Int}{cl:List D.Event}{e0 x0 st0 ss0:Int}{a1:Value}{i:D.Ins}(hO:(1≤i.Op∧i.Op≤18)∧(Cz i.Op).1≤(i.Args.length:Int)∧(i.Args.length:Int)≤(Cz i.Op).2)(hml:me.length<1073741824)(hcl:cl.length<1000000000):Tr Tryz.prog 50 #[.pointer (some ⟨g0,0,none⟩),vIns i a1] [dv (rL (rI .i32)) av an,da Am (vIns i a1) i] [bx g0 115 [.map (some gm),.int .i64 e0,.int .i32 x0,mv,cv,.int .i64 st0,av,.int .i64 ss0],vm gm V,gl Bm (rI .i32) 21 mv me,gl Bc Dr 74 cv cl] (fun c:Value×Value => .tuple #[]) (fun c=>[dv (rL (rI .i32)) c.2 (Di i an)]) (fun _ c=>[bx g0 115 [.map (some gm),.int .i64 (Ab i V me e0),.int .i32 (Ac i V me x0),mv,c.1,.int .i64 st0,c.2,.int .i64 ss0],vm gm (Ag i V me an),gl Bm (rI .i32) 21 mv (Ai i V me),gl Bc Dr 74 c.1 (Ah i V cl)]):=by
 refine Az (args:=[.pointer (some ⟨g0,0,none⟩),vIns i a1]) Tryz.func50 rfl rfl rfl fun w0 X=>?_
 refine cgo k2 fun w1=>cgo k3 fun w2=>cvw k1 fun hvw=>?_
 obtain⟨ho15,ho2,hol⟩:=R9 hO
 have hwl:(List.map V i.Args).length=i.Args.length:=by simp
 refine jq (jr (Cm Z Z fun g2=>Cm Z Z fun g3=>jn (jx (jq (jr (js (jl k1 Ez Z Z) (js (jf Hi Z) (js (jl k0 O22 Z Z) (jdq d0 fun q3 w3=>?_)))))))))
 refine jc DX Z Z (L8 w1.one w2.one w3.one) (dc (Am.c_Args d1) dn) (kc k2 (kc k2 kn)) (fun _=>p0) (fun _=>p3) fun v11=>jgo k2 fun w4=>ja Z (jn (jx (jq (jr (js (Uj Z) (ja Z (jn (jx (jq ?_)))))))))
 refine jr (js (jf Ke Z) (js (jl k3 O3 Z Z) (jn (jx (jb (jq (jr (js (Ao Z Z) (ja Z (jn (jx ?_)))))))))))
 refine jif Z (fun hc1=>?_) (fun hc1=>?_)
 refine Bz false (.a 0 (.a 1 (.a 2 (.a 3 (.a 4 (.a 5 (.a 6 (.a 7 (.o 8 .e))))))))) Bi (by kernel_rfl) (kc k0 (kc k2 (kc k2 kn))) fun F5=>jy Z (jl k2 Ez Z Z) (jy Z (Ak Z) (jy Z (jf Jr Z) (jy Z (jl k0 Ey Z Z) (jy Z (jf Gn Z) (jy Z (jl k1 O3 Z Z) (jy Z (jf Nb Z) (jy Z (jl k1 O21 Z Z) (jyo Z (jvu Dv U3 k1 Z Z Z (Am.W_Imm d2) (jyn d0 (kc k1 (kc k2 (kc k2 kn))) ?_))))))))))
 refine jyd (jbn ?_)
 have q1:Ag i V me an=Bl V i.Dst i.Imm:=by simp[hc1]
 have q2:Ab i V me e0=e0:=by simp[hc1]
 have q3:Ac i V me x0=x0:=by simp[hc1]
 have q4:Ai i V me=me:=by simp[hc1]
 have q5:Ah i V cl=cl:=by simp[hc1]
 have q6:Di i an=an:=by simp[hc1]
 simp only[q1,q2,q3,q4,q5,q6]
 exact jd0 Z (cv,av) Z (dc d1 dn) (fun _ _=>(kc k1 (kc k0 (kc k3 (kc k3 kn)))))
 refine jq (jr (js (Ao Z Z) (ja Z (jn (jx ?_)))))
 refine jif Z (fun hc2=>?_) (fun hc2=>?_)
 have ho15:=ho15 hc2
 refine Bz false (.a 0 (.a 1 (.a 2 (.a 4 (.a 5 (.a 6 (.a 7 (.a 8 (.a 9 (.a 10 (.a 12 (.a 13 (.a 14 (.a 15 (.a 16 (.a 17 (.w 3 11 (.o 11 (.o 18 (.a 19 (.a 20 (.o 21 (.o 22 .e)))))) (.w 3 18 (.o 18 (.a 19 (.a 20 (.o 21 (.o 22 .e))))) (.a 19 (.a 20 (.w 3 21 (.o 21 (.o 22 .e)) (.o 3 (.o 22 .e))))))))))))))))))))))) Bi (by kernel_rfl) (kc k2 (kc k2 (kc k2 kn))) fun F7=>jy Z (jl k2 Ez Z Z) (jy Z (Ak Z) (jy Z (jf Jr Z) (jy Z (jf Gn Z) (jy Z (jl k1 O3 Z Z) (jy Z (jmv Z) (jy Z (jl k2 Ez Z Z) (jy Z (Ak Z) (jy Z (jf Gz Z) (jy Z (jf Nc Z) (jy Z (jmv Z) ?_))))))))))
 refine jy Z (jig (i:=0) U29 Z21 k0 Z Z Z (by first|omega|(simp<;>omega))) (jy Z (jgI k0 (by first|omega|(simp<;>omega)) O21 Z) (jy Z (jf Nb Z) (jy Z (jl k1 O21 Z Z) (jy Z (Nx Z Z) ?_))))
 refine jyw Z Z ?_ ?_
 refine js (jl k0 Ey Z Z) (jyn d0 (kc k2 (kc k2 (kc k2 kn))) (jyo Z (js (jl k0 O29 Z Z) (jyn d0 (kc k2 (kc k2 (kc k2 kn))) (jyo Z (jc E85 Z Z (Tv.temp 1073741824 (Tx (IntKind.i32.wrap ((ix (List.map V i.Args) 0)+i.Imm)) (JE.wrap_wrap _ _)) (by omega)) dn (kc k5 kn) (fun _=>p0) (fun _=>p1) fun _=>jyn d0 (kc k3 (kc k3 (kc k3 kn))) (jy Z (Bs Z Z) (jy Z (Bs Z Z) (jyo Z (jc Sb Z Z (Qv _ _ Z w1.one w2.one w3.one) dn (kc k1 (kc k4 kn)) (fun _=>p0) (fun _=>p2) fun _=>?_))))))))))
 refine jyn d0 (kc k4 (kc k4 (kc k1 kn))) (jyo Z (jvu Dv U3 k3 Z Z Z (wld k2 (IntKind.i32.wrap ((ix (List.map V i.Args) 0)+i.Imm))) (jyn d0 (kc k4 (kc k4 (kc k2 kn))) (jyd (jbn ?_)))))
 have q1:Ag i V me an=Bl V i.Dst ((Ce me (IntKind.i32.wrap ((ix (List.map V i.Args) 0)+i.Imm))).1):=by simp[hc1,hc2]
 have q2:Ab i V me e0=if ((Ce me (IntKind.i32.wrap ((ix (List.map V i.Args) 0)+i.Imm))).2)=true then e0 else 2:=by simp[hc1,hc2];split<;>simp_all
 have q3:Ac i V me x0=if ((Ce me (IntKind.i32.wrap ((ix (List.map V i.Args) 0)+i.Imm))).2)=true then x0 else -2:=by simp[hc1,hc2];split<;>simp_all
 have q4:Ai i V me=me:=by simp[hc1,hc2]
 have q5:Ah i V cl=cl:=by simp[hc1,hc2]
 have q6:Di i an=an:=by simp[hc1,hc2]
 simp only[q1,q2,q3,q4,q5,q6]
 exact jd0 Z (cv,av) Z (dc d5 dn) (fun _ _=>(kc k1 (kc k0 (kc k1 (kc k3 kn)))))
 refine js (jl k0 O29 Z Z) (jyn d0 (kc k2 (kc k2 (kc k2 kn))) ?_)
 refine jyw Z Z ?_ ?_
 refine js (jl k0 Ey Z Z) (jyn d0 (kc k2 (kc k2 (kc k2 kn))) (jyo Z (jc E85 Z Z (Tv.temp 1073741824 (Tx (IntKind.i32.wrap ((ix (List.map V i.Args) 0)+i.Imm)) (JE.wrap_wrap _ _)) (by omega)) dn (kc k5 kn) (fun _=>p0) (fun _=>p1) fun _=>jyn d0 (kc k3 (kc k3 (kc k3 kn))) (jy Z (Bs Z Z) (jy Z (Bs Z Z) (jyo Z (jc Sb Z Z (Qv _ _ Z w1.one w2.one w3.one) dn (kc k1 (kc k4 kn)) (fun _=>p0) (fun _=>p2) fun _=>jyn d0 (kc k4 (kc k4 (kc k1 kn))) (jyo Z (jvu Dv U3 k3 Z Z Z (wld k2 (IntKind.i32.wrap ((ix (List.map V i.Args) 0)+i.Imm))) ?_)))))))))
 refine jyn d0 (kc k4 (kc k4 (kc k2 kn))) (jyd (jbn ?_))
 have q1:Ag i V me an=Bl V i.Dst ((Ce me (IntKind.i32.wrap ((ix (List.map V i.Args) 0)+i.Imm))).1):=by simp[hc1,hc2]
 have q2:Ab i V me e0=if ((Ce me (IntKind.i32.wrap ((ix (List.map V i.Args) 0)+i.Imm))).2)=true then e0 else 2:=by simp[hc1,hc2];split<;>simp_all
 have q3:Ac i V me x0=if ((Ce me (IntKind.i32.wrap ((ix (List.map V i.Args) 0)+i.Imm))).2)=true then x0 else -2:=by simp[hc1,hc2];split<;>simp_all
 have q4:Ai i V me=me:=by simp[hc1,hc2]
 have q5:Ah i V cl=cl:=by simp[hc1,hc2]
 have q6:Di i an=an:=by simp[hc1,hc2]
 simp only[q1,q2,q3,q4,q5,q6]
 exact jd0 Z (cv,av) Z (dc d5 dn) (fun _ _=>(kc k1 (kc k0 (kc k1 (kc k3 kn)))))
 refine jc E85 Z Z (Tv.temp 1073741824 (Tx (IntKind.i32.wrap ((ix (List.map V i.Args) 0)+i.Imm)) (JE.wrap_wrap _ _)) (by omega)) dn (kc k5 kn) (fun _=>p0) (fun _=>p1) fun _=>jyn d0 (kc k3 (kc k3 (kc k3 kn))) (jy Z (Bs Z Z) (jy Z (Bs Z Z) ?_))
 refine jyw Z Z ?_ ?_
 refine js (jl k1 Ey Z Z) (jyn d0 (kc k3 (kc k3 (kc k3 kn))) (jyo Z (jc Sb Z Z (Qv _ _ Z w1.one w2.one w3.one) dn (kc k1 (kc k4 kn)) (fun _=>p0) (fun _=>p2) fun _=>jyn d0 (kc k4 (kc k4 (kc k1 kn))) (jyo Z (jvu Dv U3 k3 Z Z Z (wld k2 (IntKind.i32.wrap ((ix (List.map V i.Args) 0)+i.Imm))) (jyn d0 (kc k4 (kc k4 (kc k2 kn))) (jyd (jbn ?_))))))))
 have q1:Ag i V me an=Bl V i.Dst ((Ce me (IntKind.i32.wrap ((ix (List.map V i.Args) 0)+i.Imm))).1):=by simp[hc1,hc2]
 have q2:Ab i V me e0=if ((Ce me (IntKind.i32.wrap ((ix (List.map V i.Args) 0)+i.Imm))).2)=true then e0 else 2:=by simp[hc1,hc2];split<;>simp_all
 have q3:Ac i V me x0=if ((Ce me (IntKind.i32.wrap ((ix (List.map V i.Args) 0)+i.Imm))).2)=true then x0 else -2:=by simp[hc1,hc2];split<;>simp_all
 have q4:Ai i V me=me:=by simp[hc1,hc2]
 have q5:Ah i V cl=cl:=by simp[hc1,hc2]
 have q6:Di i an=an:=by simp[hc1,hc2]
 simp only[q1,q2,q3,q4,q5,q6]
 exact jd0 Z (cv,av) Z (dc d5 dn) (fun _ _=>(kc k1 (kc k0 (kc k1 (kc k3 kn)))))
 refine jc Sb Z Z (Qv _ _ Z w1.one w2.one w3.one) dn (kc k1 (kc k4 kn)) (fun _=>p0) (fun _=>p2) fun _=>jyn d0 (kc k4 (kc k4 (kc k1 kn))) (jyo Z (js (jl k0 Ey Z Z) (jyn d0 (kc k4 (kc k4 (kc k1 kn))) (jyo Z (jvu Dv U3 k3 Z Z Z (wld k2 (IntKind.i32.wrap ((ix (List.map V i.Args) 0)+i.Imm))) (jyn d0 (kc k4 (kc k4 (kc k2 kn))) (jyd (jbn ?_))))))))
 have q1:Ag i V me an=Bl V i.Dst ((Ce me (IntKind.i32.wrap ((ix (List.map V i.Args) 0)+i.Imm))).1):=by simp[hc1,hc2]
 have q2:Ab i V me e0=if ((Ce me (IntKind.i32.wrap ((ix (List.map V i.Args) 0)+i.Imm))).2)=true then e0 else 2:=by simp[hc1,hc2];split<;>simp_all
 have q3:Ac i V me x0=if ((Ce me (IntKind.i32.wrap ((ix (List.map V i.Args) 0)+i.Imm))).2)=true then x0 else -2:=by simp[hc1,hc2];split<;>simp_all
 have q4:Ai i V me=me:=by simp[hc1,hc2]
 have q5:Ah i V cl=cl:=by simp[hc1,hc2]
 have q6:Di i an=an:=by simp[hc1,hc2]
 simp only[q1,q2,q3,q4,q5,q6]
 exact jd0 Z (cv,av) Z (dc d5 dn) (fun _ _=>(kc k1 (kc k0 (kc k1 (kc k3 kn)))))
 refine jq (jr (js (Ao Z Z) (ja Z (jn (jx ?_)))))
 refine jif Z (fun hc3=>?_) (fun hc3=>?_)
 have ho2:=ho2 hc1 hc2 (by omega)
 refine Bz false (.a 0 (.a 1 (.a 2 (.a 3 (.a 4 (.a 6 (.a 7 (.a 8 (.a 9 (.a 10 (.a 11 (.a 12 (.a 13 (.a 14 (.o 5 (.o 15 (.o 16 .e))))))))))))))))) Bi (by kernel_rfl) (kc k2 (kc k2 (kc k2 kn))) fun F13=>jy Z (jmv Z) (jy Z (jl k2 Ez Z Z) (jy Z (Ak Z) (jy Z (jf Gz Z) (jy Z (jf Nc Z) (jy Z (jmv Z) (jy Z (jig (i:=0) U29 Z21 k0 Z Z Z (by first|omega|(simp<;>omega))) (jy Z (jgI k0 (by first|omega|(simp<;>omega)) O21 Z) (jy Z (jf Nb Z) (jy Z (jl k1 O21 Z Z) (jy Z (Nx Z Z) ?_))))))))))
 refine jy Z (jmv Z) (jy Z (jig (i:=1) U29 Z21 k0 Z Z Z (by first|omega|(simp<;>omega))) (jy Z (jgI k0 (by first|omega|(simp<;>omega)) O21 Z) (jyo Z (js (jl k0 O29 Z Z) (jyn d0 (kc k2 (kc k2 (kc k2 kn))) (jyo Z (jwr (wgl (i:=1) k2 (by omega)) fun w16=>jc E86 Z Z (KJ (IntKind.i32.wrap ((ix (List.map V i.Args) 0)+i.Imm)) (ix (List.map V i.Args) 1) (by omega) (JE.wrap_wrap _ _) w16) dn (kc k5 kn) (fun _=>p0) (fun _=>p1) fun _=>jyn d0 (kc k3 (kc k3 (kc k3 kn))) (jyo Z (jc Sb Z Z (Qv _ _ Z w1.one w2.one w3.one) dn (kc k1 (kc k4 kn)) (fun _=>p0) (fun _=>p2) fun _=>?_)))))))))
 refine jyn d0 (kc k4 (kc k4 (kc k1 kn))) (jyd (jbn ?_))
 have q1:Ag i V me an=V:=by simp[hc1,hc2,hc3]
 have q2:Ab i V me e0=if (Jb me (IntKind.i32.wrap ((ix (List.map V i.Args) 0)+i.Imm)) (ix (List.map V i.Args) 1))=true then e0 else 2:=by simp[hc1,hc2,hc3];split<;>simp_all
 have q3:Ac i V me x0=if (Jb me (IntKind.i32.wrap ((ix (List.map V i.Args) 0)+i.Imm)) (ix (List.map V i.Args) 1))=true then x0 else -2:=by simp[hc1,hc2,hc3];split<;>simp_all
 have q4:Ai i V me=Fv me (IntKind.i32.wrap ((ix (List.map V i.Args) 0)+i.Imm)) (ix (List.map V i.Args) 1):=by simp[hc1,hc2,hc3]
 have q5:Ah i V cl=cl:=by simp[hc1,hc2,hc3]
 have q6:Di i an=an:=by simp[hc1,hc2,hc3]
 simp only[q1,q2,q3,q4,q5,q6]
 exact jd0 Z (cv,av) Z (dc d3 dn) (fun _ _=>(kc k0 (kc k2 (kc k1 (kc k3 kn)))))
 refine jq (jr (js (Ao Z Z) (ja Z (jn (jx ?_)))))
 refine jif Z (fun hc4=>?_) (fun hc4=>?_)
 refine jq (Bz false (.a 0 (.a 1 (.a 2 (.a 3 (.a 4 (.a 6 (.a 7 (.a 8 (.a 9 (.w 5 10 (.o 10 (.o 11 (.a 12 (.a 13 (.a 14 (.o 15 .e)))))) (.o 5 (.o 11 (.a 12 (.a 13 (.a 14 (.o 15 .e)))))))))))))))) Bi (by kernel_rfl) (kc k3 (kc k3 kn)) fun F18=>jy Z (jl k1 Ez Z Z) (jy Z (jl k1 Ez Z Z) (jy Z (Ak Z) (jy Z (jf Gz Z) (jy Z (jf Kf Z) (jy Z (jf Nb Z) (jy Z (jl k0 O21 Z Z) (jy Z (jmv Z) (jy Z (jbu (v := .agg #[.int .i32 i.Imm,v11]) Z (fun _=>by obtain⟨_,_,_,rfl⟩:=w4;kernel_rfl)) ?_)))))))))
 refine jyw Z Z ?_ ?_
 refine js (jl k0 O35 Z Z) (jyn d0 (kc k3 (kc k3 kn)) (jyo Z (jfz k2 (by(try simp)<;>omega) (Bg (r:=Dr) (l:=[⟨i.Imm,List.map V i.Args⟩]) U35 I74 (by decide) Z Z Z (lA (Dr.M (m:=⟨i.Imm,List.map V i.Args⟩) (c:=v11) d0 (Am.W_Imm d4)) ln) fun g103=>jyn d1 (kc k3 (kc k3 kn)) (jyo Z (jfz k0 (by(try simp)<;>omega) (Dl U35 I74 (by decide) Z k5 Z Z d0 (by(try simp)<;>omega) fun v104 w24=>jyn d1 (kc k3 (kc k3 kn)) (jy Z (Ak Z) (jy Z (jf Gz Z) ?_)))))))))
 refine jy Z (jf Kf Z) (jyo Z (jst k1 Z35 Z Z w24.one s4 (jyn d0 (kc k3 (kc k3 kn)) (jyd (jx (jq (Bz false (.a 0 (.a 1 (.a 2 (.a 3 (.a 4 (.a 5 (.o 6 .e))))))) Bi (by kernel_rfl) (kc k0 (kc k2 (kc k2 kn))) fun F26=>jy Z (jl k2 Ez Z Z) (jy Z (Ak Z) (jy Z (jf Jr Z) (jy Z (jl k0 Ey Z Z) ?_))))))))))
 refine jy Z (jf Gn Z) (jy Z (jl k1 O3 Z Z) (jyo Z (jvu Dv U3 k2 Z Z Z (wl 0) (jyn d0 (kc k1 (kc k2 (kc k2 kn))) (jyd (jx (jq (jr (js (jl k4 Ez Z Z) (js (Ak Z) (js (jf Fl Z) ?_)))))))))))
 refine js (jl k1 O29 Z Z) (js (jln U29 d7 Z) (js (Ee Z Z) (jn (jx ?_))))
 refine jif Z (fun hc5=>?_) (fun hc5=>?_)
 refine Bz false (.a 0 (.a 1 (.a 2 (.a 4 (.a 5 (.a 6 (.a 7 (.a 8 (.a 9 (.a 13 (.a 14 (.a 15 (.w3 3 10 16 (.w 10 16 (.a 11 (.a 12 (.o 16 (.a 17 (.o 18 (.a 19 (.o 20 (.a 21 (.a 22 (.o 23 .e)))))))))) (.a 17 (.w 10 18 (.a 11 (.a 12 (.o 18 (.a 19 (.o 20 (.a 21 (.a 22 (.o 23 .e)))))))) (.a 19 (.o 10 (.a 11 (.a 12 (.o 20 (.a 21 (.a 22 (.o 23 .e))))))))))) (.a 11 (.a 12 (.w 3 16 (.o 16 (.a 17 (.o 18 (.a 19 (.o 20 (.a 21 (.a 22 (.o 23 .e)))))))) (.a 17 (.o 3 (.o 18 (.a 19 (.o 20 (.a 21 (.a 22 (.o 23 .e))))))))))) (.a 17 (.w 3 10 (.w 10 18 (.a 11 (.a 12 (.o 18 (.a 19 (.o 20 (.a 21 (.a 22 (.o 23 .e)))))))) (.a 19 (.o 10 (.a 11 (.a 12 (.o 20 (.a 21 (.a 22 (.o 23 .e))))))))) (.a 11 (.a 12 (.o 3 (.o 18 (.a 19 (.o 20 (.a 21 (.a 22 (.o 23 .e)))))))))))))))))))))))) Bi (by kernel_rfl) (kc k3 (kc k3 kn)) fun F28=>jy Z (jl k1 Ez Z Z) (jy Z (Ak Z) (jy Z (jf Jr Z) (jy Z (jf Gn Z) (jy Z (jl k0 O3 Z Z) (jy Z (jl k1 Ez Z Z) (jy Z (jl k1 Ez Z Z) (jy Z (Ak Z) (jy Z (jf Fl Z) (jy Z (jl k1 Ez Z Z) (jy Z (Ak Z) ?_))))))))))
 refine jy Z (jf Fl Z) ?_
 refine Xz Z Z Z ?_ ?_ ?_
 refine js (jl k1 Ey Z Z) (jyn d0 (kc k3 (kc k3 kn)) ?_)
 refine jyw Z Z ?_ ?_
 refine js (jl k1 O29 Z Z) (jyn d0 (kc k3 (kc k3 kn)) (jy Z (jix (i:=0) U29 Z21 d7 Z Z Z (by omega)) (jy Z (jlI (dix d7 0 (by omega)) O21 Z) (jyo Z (js (jl k1 O29 Z Z) (jyn d0 (kc k3 (kc k3 kn)) (jy Z (Kt (lo:=1) U29 Z21 d7 Z Z Z (by omega)) (jyo Z (jve Dv U3 J21 k0 Z Z fun u138 s138=>jyn d0 (kc k3 (kc k3 kn)) (jy Z (Bs Z Z) ?_))))))))))
 refine jyo Z (jvs k0 Z Z Z (wad (dix d12 0 (by omega))) (jyn d0 (kc k3 (kc k3 kn)) (jy Z (Ak Z) (jy Z (jf Fl Z) (jyo Z (jdq (dlo d13 1 (by omega) (by omega)) fun q35 w35=>jst k1 Z29 Z Z w35.one s6 (jyn d0 (kc k3 (kc k3 kn)) (jyd (jbn ?_)))))))))
 have q1:Ag i V me an=Bl (Bl V i.Dst 0) i.Dst (ix an 0):=by simp_all
 have q2:Ab i V me e0=e0:=by simp[hc1,hc2,hc3,hc4,hc5]
 have q3:Ac i V me x0=x0:=by simp[hc1,hc2,hc3,hc4,hc5]
 have q4:Ai i V me=me:=by simp[hc1,hc2,hc3,hc4,hc5]
 have q5:Ah i V cl=cl++([⟨i.Imm,List.map V i.Args⟩]):=by simp[hc1,hc2,hc3,hc4,hc5]
 have q6:Di i an=List.drop 1 an:=by simp[hc1,hc2,hc3,hc4,hc5]
 simp only[q1,q2,q3,q4,q5,q6]
 exact jd0 Z (v104,(resl 1 av 1 an.length)) Z (dc (dlo d13 1 (by omega) (by omega)) dn) (fun _ _=>(kd (kc k3 (kc k0 kn))))
 refine js (jl k1 O29 Z Z) (jyn d0 (kc k3 (kc k3 kn)) (jy Z (Kt (lo:=1) U29 Z21 d7 Z Z Z (by omega)) ?_))
 refine jyw Z Z ?_ ?_
 refine js (jl k1 O29 Z Z) (jyn d0 (kc k3 (kc k3 kn)) (jy Z (jix (i:=0) U29 Z21 d7 Z Z Z (by omega)) (jy Z (jlI (dix d7 0 (by omega)) O21 Z) (jyo Z (jve Dv U3 J21 k0 Z Z fun u138 s138=>jyn d0 (kc k3 (kc k3 kn)) (jy Z (Bs Z Z) (jyo Z (jvs k0 Z Z Z (wad (dix d12 0 (by omega))) (jyn d0 (kc k3 (kc k3 kn)) (jy Z (Ak Z) ?_))))))))))
 refine jy Z (jf Fl Z) (jyo Z (jdq (dlo d13 1 (by omega) (by omega)) fun q35 w35=>jst k1 Z29 Z Z w35.one s6 (jyn d0 (kc k3 (kc k3 kn)) (jyd (jbn ?_)))))
 have q1:Ag i V me an=Bl (Bl V i.Dst 0) i.Dst (ix an 0):=by simp_all
 have q2:Ab i V me e0=e0:=by simp[hc1,hc2,hc3,hc4,hc5]
 have q3:Ac i V me x0=x0:=by simp[hc1,hc2,hc3,hc4,hc5]
 have q4:Ai i V me=me:=by simp[hc1,hc2,hc3,hc4,hc5]
 have q5:Ah i V cl=cl++([⟨i.Imm,List.map V i.Args⟩]):=by simp[hc1,hc2,hc3,hc4,hc5]
 have q6:Di i an=List.drop 1 an:=by simp[hc1,hc2,hc3,hc4,hc5]
 simp only[q1,q2,q3,q4,q5,q6]
 exact jd0 Z (v104,(resl 1 av 1 an.length)) Z (dc (dlo d13 1 (by omega) (by omega)) dn) (fun _ _=>(kd (kc k3 (kc k0 kn))))
 refine jve Dv U3 J21 k0 Z Z fun u138 s138=>jyn d0 (kc k3 (kc k3 kn)) (jy Z (Bs Z Z) (jyo Z (js (jl k1 O29 Z Z) (jyn d0 (kc k3 (kc k3 kn)) (jy Z (jix (i:=0) U29 Z21 d7 Z Z Z (by omega)) (jy Z (jlI (dix d7 0 (by omega)) O21 Z) (jyo Z (jvs k0 Z Z Z (wad (dix d12 0 (by omega))) (jyn d0 (kc k3 (kc k3 kn)) (jy Z (Ak Z) ?_))))))))))
 refine jy Z (jf Fl Z) (jyo Z (jdq (dlo d13 1 (by omega) (by omega)) fun q35 w35=>jst k1 Z29 Z Z w35.one s6 (jyn d0 (kc k3 (kc k3 kn)) (jyd (jbn ?_)))))
 have q1:Ag i V me an=Bl (Bl V i.Dst 0) i.Dst (ix an 0):=by simp_all
 have q2:Ab i V me e0=e0:=by simp[hc1,hc2,hc3,hc4,hc5]
 have q3:Ac i V me x0=x0:=by simp[hc1,hc2,hc3,hc4,hc5]
 have q4:Ai i V me=me:=by simp[hc1,hc2,hc3,hc4,hc5]
 have q5:Ah i V cl=cl++([⟨i.Imm,List.map V i.Args⟩]):=by simp[hc1,hc2,hc3,hc4,hc5]
 have q6:Di i an=List.drop 1 an:=by simp[hc1,hc2,hc3,hc4,hc5]
 simp only[q1,q2,q3,q4,q5,q6]
 exact jd0 Z (v104,(resl 1 av 1 an.length)) Z (dc (dlo d13 1 (by omega) (by omega)) dn) (fun _ _=>(kd (kc k3 (kc k0 kn))))
 refine js (jl k1 O29 Z Z) (jyn d0 (kc k3 (kc k3 kn)) (jy Z (jix (i:=0) U29 Z21 d7 Z Z Z (by omega)) (jy Z (jlI (dix d7 0 (by omega)) O21 Z) ?_)))
 refine jyw Z Z ?_ ?_
 refine js (jl k1 Ey Z Z) (jyn d0 (kc k3 (kc k3 kn)) (jyo Z (js (jl k1 O29 Z Z) (jyn d0 (kc k3 (kc k3 kn)) (jy Z (Kt (lo:=1) U29 Z21 d7 Z Z Z (by omega)) (jyo Z (jve Dv U3 J21 k0 Z Z fun u138 s138=>jyn d0 (kc k3 (kc k3 kn)) (jy Z (Bs Z Z) (jyo Z (jvs k0 Z Z Z (wad (dix d12 0 (by omega))) ?_))))))))))
 refine jyn d0 (kc k3 (kc k3 kn)) (jy Z (Ak Z) (jy Z (jf Fl Z) (jyo Z (jdq (dlo d13 1 (by omega) (by omega)) fun q35 w35=>jst k1 Z29 Z Z w35.one s6 (jyn d0 (kc k3 (kc k3 kn)) (jyd (jbn ?_)))))))
 have q1:Ag i V me an=Bl (Bl V i.Dst 0) i.Dst (ix an 0):=by simp_all
 have q2:Ab i V me e0=e0:=by simp[hc1,hc2,hc3,hc4,hc5]
 have q3:Ac i V me x0=x0:=by simp[hc1,hc2,hc3,hc4,hc5]
 have q4:Ai i V me=me:=by simp[hc1,hc2,hc3,hc4,hc5]
 have q5:Ah i V cl=cl++([⟨i.Imm,List.map V i.Args⟩]):=by simp[hc1,hc2,hc3,hc4,hc5]
 have q6:Di i an=List.drop 1 an:=by simp[hc1,hc2,hc3,hc4,hc5]
 simp only[q1,q2,q3,q4,q5,q6]
 exact jd0 Z (v104,(resl 1 av 1 an.length)) Z (dc (dlo d13 1 (by omega) (by omega)) dn) (fun _ _=>(kd (kc k3 (kc k0 kn))))
 refine js (jl k1 O29 Z Z) (jyn d0 (kc k3 (kc k3 kn)) (jy Z (Kt (lo:=1) U29 Z21 d7 Z Z Z (by omega)) (jyo Z (js (jl k1 Ey Z Z) (jyn d0 (kc k3 (kc k3 kn)) (jyo Z (jve Dv U3 J21 k0 Z Z fun u138 s138=>jyn d0 (kc k3 (kc k3 kn)) (jy Z (Bs Z Z) (jyo Z (jvs k0 Z Z Z (wad (dix d12 0 (by omega))) ?_))))))))))
 refine jyn d0 (kc k3 (kc k3 kn)) (jy Z (Ak Z) (jy Z (jf Fl Z) (jyo Z (jdq (dlo d13 1 (by omega) (by omega)) fun q35 w35=>jst k1 Z29 Z Z w35.one s6 (jyn d0 (kc k3 (kc k3 kn)) (jyd (jbn ?_)))))))
 have q1:Ag i V me an=Bl (Bl V i.Dst 0) i.Dst (ix an 0):=by simp_all
 have q2:Ab i V me e0=e0:=by simp[hc1,hc2,hc3,hc4,hc5]
 have q3:Ac i V me x0=x0:=by simp[hc1,hc2,hc3,hc4,hc5]
 have q4:Ai i V me=me:=by simp[hc1,hc2,hc3,hc4,hc5]
 have q5:Ah i V cl=cl++([⟨i.Imm,List.map V i.Args⟩]):=by simp[hc1,hc2,hc3,hc4,hc5]
 have q6:Di i an=List.drop 1 an:=by simp[hc1,hc2,hc3,hc4,hc5]
 simp only[q1,q2,q3,q4,q5,q6]
 exact jd0 Z (v104,(resl 1 av 1 an.length)) Z (dc (dlo d13 1 (by omega) (by omega)) dn) (fun _ _=>(kd (kc k3 (kc k0 kn))))
 refine js (jl k1 O29 Z Z) (jyn d0 (kc k3 (kc k3 kn)) (jy Z (Kt (lo:=1) U29 Z21 d7 Z Z Z (by omega)) ?_))
 refine jyw Z Z ?_ ?_
 refine js (jl k1 Ey Z Z) (jyn d0 (kc k3 (kc k3 kn)) ?_)
 refine jyw Z Z ?_ ?_
 refine js (jl k1 O29 Z Z) (jyn d0 (kc k3 (kc k3 kn)) (jy Z (jix (i:=0) U29 Z21 d7 Z Z Z (by omega)) (jy Z (jlI (dix d7 0 (by omega)) O21 Z) (jyo Z (jve Dv U3 J21 k0 Z Z fun u138 s138=>jyn d0 (kc k3 (kc k3 kn)) (jy Z (Bs Z Z) (jyo Z (jvs k0 Z Z Z (wad (dix d12 0 (by omega))) (jyn d0 (kc k3 (kc k3 kn)) (jy Z (Ak Z) ?_))))))))))
 refine jy Z (jf Fl Z) (jyo Z (jdq (dlo d13 1 (by omega) (by omega)) fun q35 w35=>jst k1 Z29 Z Z w35.one s6 (jyn d0 (kc k3 (kc k3 kn)) (jyd (jbn ?_)))))
 have q1:Ag i V me an=Bl (Bl V i.Dst 0) i.Dst (ix an 0):=by simp_all
 have q2:Ab i V me e0=e0:=by simp[hc1,hc2,hc3,hc4,hc5]
 have q3:Ac i V me x0=x0:=by simp[hc1,hc2,hc3,hc4,hc5]
 have q4:Ai i V me=me:=by simp[hc1,hc2,hc3,hc4,hc5]
 have q5:Ah i V cl=cl++([⟨i.Imm,List.map V i.Args⟩]):=by simp[hc1,hc2,hc3,hc4,hc5]
 have q6:Di i an=List.drop 1 an:=by simp[hc1,hc2,hc3,hc4,hc5]
 simp only[q1,q2,q3,q4,q5,q6]
 exact jd0 Z (v104,(resl 1 av 1 an.length)) Z (dc (dlo d13 1 (by omega) (by omega)) dn) (fun _ _=>(kd (kc k3 (kc k0 kn))))
 refine jve Dv U3 J21 k0 Z Z fun u138 s138=>jyn d0 (kc k3 (kc k3 kn)) (jy Z (Bs Z Z) (jyo Z (js (jl k1 O29 Z Z) (jyn d0 (kc k3 (kc k3 kn)) (jy Z (jix (i:=0) U29 Z21 d7 Z Z Z (by omega)) (jy Z (jlI (dix d7 0 (by omega)) O21 Z) (jyo Z (jvs k0 Z Z Z (wad (dix d12 0 (by omega))) (jyn d0 (kc k3 (kc k3 kn)) (jy Z (Ak Z) ?_))))))))))
 refine jy Z (jf Fl Z) (jyo Z (jdq (dlo d13 1 (by omega) (by omega)) fun q35 w35=>jst k1 Z29 Z Z w35.one s6 (jyn d0 (kc k3 (kc k3 kn)) (jyd (jbn ?_)))))
 have q1:Ag i V me an=Bl (Bl V i.Dst 0) i.Dst (ix an 0):=by simp_all
 have q2:Ab i V me e0=e0:=by simp[hc1,hc2,hc3,hc4,hc5]
 have q3:Ac i V me x0=x0:=by simp[hc1,hc2,hc3,hc4,hc5]
 have q4:Ai i V me=me:=by simp[hc1,hc2,hc3,hc4,hc5]
 have q5:Ah i V cl=cl++([⟨i.Imm,List.map V i.Args⟩]):=by simp[hc1,hc2,hc3,hc4,hc5]
 have q6:Di i an=List.drop 1 an:=by simp[hc1,hc2,hc3,hc4,hc5]
 simp only[q1,q2,q3,q4,q5,q6]
 exact jd0 Z (v104,(resl 1 av 1 an.length)) Z (dc (dlo d13 1 (by omega) (by omega)) dn) (fun _ _=>(kd (kc k3 (kc k0 kn))))
 refine js (jl k1 O29 Z Z) (jyn d0 (kc k3 (kc k3 kn)) (jy Z (jix (i:=0) U29 Z21 d7 Z Z Z (by omega)) (jy Z (jlI (dix d7 0 (by omega)) O21 Z) (jyo Z (js (jl k1 Ey Z Z) (jyn d0 (kc k3 (kc k3 kn)) (jyo Z (jve Dv U3 J21 k0 Z Z fun u138 s138=>jyn d0 (kc k3 (kc k3 kn)) (jy Z (Bs Z Z) (jyo Z ?_))))))))))
 refine jvs k0 Z Z Z (wad (dix d12 0 (by omega))) (jyn d0 (kc k3 (kc k3 kn)) (jy Z (Ak Z) (jy Z (jf Fl Z) (jyo Z (jdq (dlo d13 1 (by omega) (by omega)) fun q35 w35=>jst k1 Z29 Z Z w35.one s6 (jyn d0 (kc k3 (kc k3 kn)) (jyd (jbn ?_))))))))
 have q1:Ag i V me an=Bl (Bl V i.Dst 0) i.Dst (ix an 0):=by simp_all
 have q2:Ab i V me e0=e0:=by simp[hc1,hc2,hc3,hc4,hc5]
 have q3:Ac i V me x0=x0:=by simp[hc1,hc2,hc3,hc4,hc5]
 have q4:Ai i V me=me:=by simp[hc1,hc2,hc3,hc4,hc5]
 have q5:Ah i V cl=cl++([⟨i.Imm,List.map V i.Args⟩]):=by simp[hc1,hc2,hc3,hc4,hc5]
 have q6:Di i an=List.drop 1 an:=by simp[hc1,hc2,hc3,hc4,hc5]
 simp only[q1,q2,q3,q4,q5,q6]
 exact jd0 Z (v104,(resl 1 av 1 an.length)) Z (dc (dlo d13 1 (by omega) (by omega)) dn) (fun _ _=>(kd (kc k3 (kc k0 kn))))
 refine jsk (jbn ?_)
 have q1:Ag i V me an=Bl V i.Dst 0:=by simp_all
 have q2:Ab i V me e0=e0:=by simp[hc1,hc2,hc3,hc4,hc5]
 have q3:Ac i V me x0=x0:=by simp[hc1,hc2,hc3,hc4,hc5]
 have q4:Ai i V me=me:=by simp[hc1,hc2,hc3,hc4,hc5]
 have q5:Ah i V cl=cl++([⟨i.Imm,List.map V i.Args⟩]):=by simp[hc1,hc2,hc3,hc4,hc5]
 have q6:Di i an=an:=by simp_all
 simp only[q1,q2,q3,q4,q5,q6]
 exact jd0 Z (v104,av) Z (dc d7 dn) (fun _ _=>(kc k1 (kc k0 (kc k3 (kc k0 kn)))))
 refine jfz k2 (by(try simp)<;>omega) (Bg (r:=Dr) (l:=[⟨i.Imm,List.map V i.Args⟩]) U35 I74 (by decide) Z Z Z (lA (Dr.M (m:=⟨i.Imm,List.map V i.Args⟩) (c:=v11) d0 (Am.W_Imm d3)) ln) fun g103=>jyn d1 (kc k3 (kc k3 kn)) (jyo Z (js (jl k1 O35 Z Z) (jyn d0 (kc k3 (kc k3 kn)) (jyo Z (jfz k0 (by(try simp)<;>omega) (Dl U35 I74 (by decide) Z k5 Z Z d0 (by(try simp)<;>omega) fun v104 w24=>jyn d1 (kc k3 (kc k3 kn)) (jy Z (Ak Z) (jy Z (jf Gz Z) ?_)))))))))
 refine jy Z (jf Kf Z) (jyo Z (jst k1 Z35 Z Z w24.one s4 (jyn d0 (kc k3 (kc k3 kn)) (jyd (jx (jq (Bz false (.a 0 (.a 1 (.a 2 (.a 3 (.a 4 (.a 5 (.o 6 .e))))))) Bi (by kernel_rfl) (kc k0 (kc k2 (kc k2 kn))) fun F26=>jy Z (jl k2 Ez Z Z) (jy Z (Ak Z) (jy Z (jf Jr Z) (jy Z (jl k0 Ey Z Z) ?_))))))))))
 refine jy Z (jf Gn Z) (jy Z (jl k1 O3 Z Z) (jyo Z (jvu Dv U3 k2 Z Z Z (wl 0) (jyn d0 (kc k1 (kc k2 (kc k2 kn))) (jyd (jx (jq (jr (js (jl k4 Ez Z Z) (js (Ak Z) (js (jf Fl Z) ?_)))))))))))
 refine js (jl k1 O29 Z Z) (js (jln U29 d7 Z) (js (Ee Z Z) (jn (jx ?_))))
 refine jif Z (fun hc5=>?_) (fun hc5=>?_)
 refine Bz false (.a 0 (.a 1 (.a 2 (.a 4 (.a 5 (.a 6 (.a 7 (.a 8 (.a 9 (.a 13 (.a 14 (.a 15 (.w3 3 10 16 (.w 10 16 (.a 11 (.a 12 (.o 16 (.a 17 (.o 18 (.a 19 (.o 20 (.a 21 (.a 22 (.o 23 .e)))))))))) (.a 17 (.w 10 18 (.a 11 (.a 12 (.o 18 (.a 19 (.o 20 (.a 21 (.a 22 (.o 23 .e)))))))) (.a 19 (.o 10 (.a 11 (.a 12 (.o 20 (.a 21 (.a 22 (.o 23 .e))))))))))) (.a 11 (.a 12 (.w 3 16 (.o 16 (.a 17 (.o 18 (.a 19 (.o 20 (.a 21 (.a 22 (.o 23 .e)))))))) (.a 17 (.o 3 (.o 18 (.a 19 (.o 20 (.a 21 (.a 22 (.o 23 .e))))))))))) (.a 17 (.w 3 10 (.w 10 18 (.a 11 (.a 12 (.o 18 (.a 19 (.o 20 (.a 21 (.a 22 (.o 23 .e)))))))) (.a 19 (.o 10 (.a 11 (.a 12 (.o 20 (.a 21 (.a 22 (.o 23 .e))))))))) (.a 11 (.a 12 (.o 3 (.o 18 (.a 19 (.o 20 (.a 21 (.a 22 (.o 23 .e)))))))))))))))))))))))) Bi (by kernel_rfl) (kc k3 (kc k3 kn)) fun F28=>jy Z (jl k1 Ez Z Z) (jy Z (Ak Z) (jy Z (jf Jr Z) (jy Z (jf Gn Z) (jy Z (jl k0 O3 Z Z) (jy Z (jl k1 Ez Z Z) (jy Z (jl k1 Ez Z Z) (jy Z (Ak Z) (jy Z (jf Fl Z) (jy Z (jl k1 Ez Z Z) (jy Z (Ak Z) ?_))))))))))
 refine jy Z (jf Fl Z) ?_
 refine Xz Z Z Z ?_ ?_ ?_
 refine js (jl k1 Ey Z Z) (jyn d0 (kc k3 (kc k3 kn)) ?_)
 refine jyw Z Z ?_ ?_
 refine js (jl k1 O29 Z Z) (jyn d0 (kc k3 (kc k3 kn)) (jy Z (jix (i:=0) U29 Z21 d7 Z Z Z (by omega)) (jy Z (jlI (dix d7 0 (by omega)) O21 Z) (jyo Z (js (jl k1 O29 Z Z) (jyn d0 (kc k3 (kc k3 kn)) (jy Z (Kt (lo:=1) U29 Z21 d7 Z Z Z (by omega)) (jyo Z (jve Dv U3 J21 k0 Z Z fun u138 s138=>jyn d0 (kc k3 (kc k3 kn)) (jy Z (Bs Z Z) ?_))))))))))
 refine jyo Z (jvs k0 Z Z Z (wad (dix d12 0 (by omega))) (jyn d0 (kc k3 (kc k3 kn)) (jy Z (Ak Z) (jy Z (jf Fl Z) (jyo Z (jdq (dlo d13 1 (by omega) (by omega)) fun q35 w35=>jst k1 Z29 Z Z w35.one s6 (jyn d0 (kc k3 (kc k3 kn)) (jyd (jbn ?_)))))))))
 have q1:Ag i V me an=Bl (Bl V i.Dst 0) i.Dst (ix an 0):=by simp_all
 have q2:Ab i V me e0=e0:=by simp[hc1,hc2,hc3,hc4,hc5]
 have q3:Ac i V me x0=x0:=by simp[hc1,hc2,hc3,hc4,hc5]
 have q4:Ai i V me=me:=by simp[hc1,hc2,hc3,hc4,hc5]
 have q5:Ah i V cl=cl++([⟨i.Imm,List.map V i.Args⟩]):=by simp[hc1,hc2,hc3,hc4,hc5]
 have q6:Di i an=List.drop 1 an:=by simp[hc1,hc2,hc3,hc4,hc5]
 simp only[q1,q2,q3,q4,q5,q6]
 exact jd0 Z (v104,(resl 1 av 1 an.length)) Z (dc (dlo d13 1 (by omega) (by omega)) dn) (fun _ _=>(kd (kc k3 (kc k0 kn))))
 refine js (jl k1 O29 Z Z) (jyn d0 (kc k3 (kc k3 kn)) (jy Z (Kt (lo:=1) U29 Z21 d7 Z Z Z (by omega)) ?_))
 refine jyw Z Z ?_ ?_
 refine js (jl k1 O29 Z Z) (jyn d0 (kc k3 (kc k3 kn)) (jy Z (jix (i:=0) U29 Z21 d7 Z Z Z (by omega)) (jy Z (jlI (dix d7 0 (by omega)) O21 Z) (jyo Z (jve Dv U3 J21 k0 Z Z fun u138 s138=>jyn d0 (kc k3 (kc k3 kn)) (jy Z (Bs Z Z) (jyo Z (jvs k0 Z Z Z (wad (dix d12 0 (by omega))) (jyn d0 (kc k3 (kc k3 kn)) (jy Z (Ak Z) ?_))))))))))
 refine jy Z (jf Fl Z) (jyo Z (jdq (dlo d13 1 (by omega) (by omega)) fun q35 w35=>jst k1 Z29 Z Z w35.one s6 (jyn d0 (kc k3 (kc k3 kn)) (jyd (jbn ?_)))))
 have q1:Ag i V me an=Bl (Bl V i.Dst 0) i.Dst (ix an 0):=by simp_all
 have q2:Ab i V me e0=e0:=by simp[hc1,hc2,hc3,hc4,hc5]
 have q3:Ac i V me x0=x0:=by simp[hc1,hc2,hc3,hc4,hc5]
 have q4:Ai i V me=me:=by simp[hc1,hc2,hc3,hc4,hc5]
 have q5:Ah i V cl=cl++([⟨i.Imm,List.map V i.Args⟩]):=by simp[hc1,hc2,hc3,hc4,hc5]
 have q6:Di i an=List.drop 1 an:=by simp[hc1,hc2,hc3,hc4,hc5]
 simp only[q1,q2,q3,q4,q5,q6]
 exact jd0 Z (v104,(resl 1 av 1 an.length)) Z (dc (dlo d13 1 (by omega) (by omega)) dn) (fun _ _=>(kd (kc k3 (kc k0 kn))))
 refine jve Dv U3 J21 k0 Z Z fun u138 s138=>jyn d0 (kc k3 (kc k3 kn)) (jy Z (Bs Z Z) (jyo Z (js (jl k1 O29 Z Z) (jyn d0 (kc k3 (kc k3 kn)) (jy Z (jix (i:=0) U29 Z21 d7 Z Z Z (by omega)) (jy Z (jlI (dix d7 0 (by omega)) O21 Z) (jyo Z (jvs k0 Z Z Z (wad (dix d12 0 (by omega))) (jyn d0 (kc k3 (kc k3 kn)) (jy Z (Ak Z) ?_))))))))))
 refine jy Z (jf Fl Z) (jyo Z (jdq (dlo d13 1 (by omega) (by omega)) fun q35 w35=>jst k1 Z29 Z Z w35.one s6 (jyn d0 (kc k3 (kc k3 kn)) (jyd (jbn ?_)))))
 have q1:Ag i V me an=Bl (Bl V i.Dst 0) i.Dst (ix an 0):=by simp_all
 have q2:Ab i V me e0=e0:=by simp[hc1,hc2,hc3,hc4,hc5]
 have q3:Ac i V me x0=x0:=by simp[hc1,hc2,hc3,hc4,hc5]
 have q4:Ai i V me=me:=by simp[hc1,hc2,hc3,hc4,hc5]
 have q5:Ah i V cl=cl++([⟨i.Imm,List.map V i.Args⟩]):=by simp[hc1,hc2,hc3,hc4,hc5]
 have q6:Di i an=List.drop 1 an:=by simp[hc1,hc2,hc3,hc4,hc5]
 simp only[q1,q2,q3,q4,q5,q6]
 exact jd0 Z (v104,(resl 1 av 1 an.length)) Z (dc (dlo d13 1 (by omega) (by omega)) dn) (fun _ _=>(kd (kc k3 (kc k0 kn))))
 refine js (jl k1 O29 Z Z) (jyn d0 (kc k3 (kc k3 kn)) (jy Z (jix (i:=0) U29 Z21 d7 Z Z Z (by omega)) (jy Z (jlI (dix d7 0 (by omega)) O21 Z) ?_)))
 refine jyw Z Z ?_ ?_
 refine js (jl k1 Ey Z Z) (jyn d0 (kc k3 (kc k3 kn)) (jyo Z (js (jl k1 O29 Z Z) (jyn d0 (kc k3 (kc k3 kn)) (jy Z (Kt (lo:=1) U29 Z21 d7 Z Z Z (by omega)) (jyo Z (jve Dv U3 J21 k0 Z Z fun u138 s138=>jyn d0 (kc k3 (kc k3 kn)) (jy Z (Bs Z Z) (jyo Z (jvs k0 Z Z Z (wad (dix d12 0 (by omega))) ?_))))))))))
 refine jyn d0 (kc k3 (kc k3 kn)) (jy Z (Ak Z) (jy Z (jf Fl Z) (jyo Z (jdq (dlo d13 1 (by omega) (by omega)) fun q35 w35=>jst k1 Z29 Z Z w35.one s6 (jyn d0 (kc k3 (kc k3 kn)) (jyd (jbn ?_)))))))
 have q1:Ag i V me an=Bl (Bl V i.Dst 0) i.Dst (ix an 0):=by simp_all
 have q2:Ab i V me e0=e0:=by simp[hc1,hc2,hc3,hc4,hc5]
 have q3:Ac i V me x0=x0:=by simp[hc1,hc2,hc3,hc4,hc5]
 have q4:Ai i V me=me:=by simp[hc1,hc2,hc3,hc4,hc5]
 have q5:Ah i V cl=cl++([⟨i.Imm,List.map V i.Args⟩]):=by simp[hc1,hc2,hc3,hc4,hc5]
 have q6:Di i an=List.drop 1 an:=by simp[hc1,hc2,hc3,hc4,hc5]
 simp only[q1,q2,q3,q4,q5,q6]
 exact jd0 Z (v104,(resl 1 av 1 an.length)) Z (dc (dlo d13 1 (by omega) (by omega)) dn) (fun _ _=>(kd (kc k3 (kc k0 kn))))
 refine js (jl k1 O29 Z Z) (jyn d0 (kc k3 (kc k3 kn)) (jy Z (Kt (lo:=1) U29 Z21 d7 Z Z Z (by omega)) (jyo Z (js (jl k1 Ey Z Z) (jyn d0 (kc k3 (kc k3 kn)) (jyo Z (jve Dv U3 J21 k0 Z Z fun u138 s138=>jyn d0 (kc k3 (kc k3 kn)) (jy Z (Bs Z Z) (jyo Z (jvs k0 Z Z Z (wad (dix d12 0 (by omega))) ?_))))))))))
 refine jyn d0 (kc k3 (kc k3 kn)) (jy Z (Ak Z) (jy Z (jf Fl Z) (jyo Z (jdq (dlo d13 1 (by omega) (by omega)) fun q35 w35=>jst k1 Z29 Z Z w35.one s6 (jyn d0 (kc k3 (kc k3 kn)) (jyd (jbn ?_)))))))
 have q1:Ag i V me an=Bl (Bl V i.Dst 0) i.Dst (ix an 0):=by simp_all
 have q2:Ab i V me e0=e0:=by simp[hc1,hc2,hc3,hc4,hc5]
 have q3:Ac i V me x0=x0:=by simp[hc1,hc2,hc3,hc4,hc5]
 have q4:Ai i V me=me:=by simp[hc1,hc2,hc3,hc4,hc5]
 have q5:Ah i V cl=cl++([⟨i.Imm,List.map V i.Args⟩]):=by simp[hc1,hc2,hc3,hc4,hc5]
 have q6:Di i an=List.drop 1 an:=by simp[hc1,hc2,hc3,hc4,hc5]
 simp only[q1,q2,q3,q4,q5,q6]
 exact jd0 Z (v104,(resl 1 av 1 an.length)) Z (dc (dlo d13 1 (by omega) (by omega)) dn) (fun _ _=>(kd (kc k3 (kc k0 kn))))
 refine js (jl k1 O29 Z Z) (jyn d0 (kc k3 (kc k3 kn)) (jy Z (Kt (lo:=1) U29 Z21 d7 Z Z Z (by omega)) ?_))
 refine jyw Z Z ?_ ?_
 refine js (jl k1 Ey Z Z) (jyn d0 (kc k3 (kc k3 kn)) ?_)
 refine jyw Z Z ?_ ?_
 refine js (jl k1 O29 Z Z) (jyn d0 (kc k3 (kc k3 kn)) (jy Z (jix (i:=0) U29 Z21 d7 Z Z Z (by omega)) (jy Z (jlI (dix d7 0 (by omega)) O21 Z) (jyo Z (jve Dv U3 J21 k0 Z Z fun u138 s138=>jyn d0 (kc k3 (kc k3 kn)) (jy Z (Bs Z Z) (jyo Z (jvs k0 Z Z Z (wad (dix d12 0 (by omega))) (jyn d0 (kc k3 (kc k3 kn)) (jy Z (Ak Z) ?_))))))))))
 refine jy Z (jf Fl Z) (jyo Z (jdq (dlo d13 1 (by omega) (by omega)) fun q35 w35=>jst k1 Z29 Z Z w35.one s6 (jyn d0 (kc k3 (kc k3 kn)) (jyd (jbn ?_)))))
 have q1:Ag i V me an=Bl (Bl V i.Dst 0) i.Dst (ix an 0):=by simp_all
 have q2:Ab i V me e0=e0:=by simp[hc1,hc2,hc3,hc4,hc5]
 have q3:Ac i V me x0=x0:=by simp[hc1,hc2,hc3,hc4,hc5]
 have q4:Ai i V me=me:=by simp[hc1,hc2,hc3,hc4,hc5]
 have q5:Ah i V cl=cl++([⟨i.Imm,List.map V i.Args⟩]):=by simp[hc1,hc2,hc3,hc4,hc5]
 have q6:Di i an=List.drop 1 an:=by simp[hc1,hc2,hc3,hc4,hc5]
 simp only[q1,q2,q3,q4,q5,q6]
 exact jd0 Z (v104,(resl 1 av 1 an.length)) Z (dc (dlo d13 1 (by omega) (by omega)) dn) (fun _ _=>(kd (kc k3 (kc k0 kn))))
 refine jve Dv U3 J21 k0 Z Z fun u138 s138=>jyn d0 (kc k3 (kc k3 kn)) (jy Z (Bs Z Z) (jyo Z (js (jl k1 O29 Z Z) (jyn d0 (kc k3 (kc k3 kn)) (jy Z (jix (i:=0) U29 Z21 d7 Z Z Z (by omega)) (jy Z (jlI (dix d7 0 (by omega)) O21 Z) (jyo Z (jvs k0 Z Z Z (wad (dix d12 0 (by omega))) (jyn d0 (kc k3 (kc k3 kn)) (jy Z (Ak Z) ?_))))))))))
 refine jy Z (jf Fl Z) (jyo Z (jdq (dlo d13 1 (by omega) (by omega)) fun q35 w35=>jst k1 Z29 Z Z w35.one s6 (jyn d0 (kc k3 (kc k3 kn)) (jyd (jbn ?_)))))
 have q1:Ag i V me an=Bl (Bl V i.Dst 0) i.Dst (ix an 0):=by simp_all
 have q2:Ab i V me e0=e0:=by simp[hc1,hc2,hc3,hc4,hc5]
 have q3:Ac i V me x0=x0:=by simp[hc1,hc2,hc3,hc4,hc5]
 have q4:Ai i V me=me:=by simp[hc1,hc2,hc3,hc4,hc5]
 have q5:Ah i V cl=cl++([⟨i.Imm,List.map V i.Args⟩]):=by simp[hc1,hc2,hc3,hc4,hc5]
 have q6:Di i an=List.drop 1 an:=by simp[hc1,hc2,hc3,hc4,hc5]
 simp only[q1,q2,q3,q4,q5,q6]
 exact jd0 Z (v104,(resl 1 av 1 an.length)) Z (dc (dlo d13 1 (by omega) (by omega)) dn) (fun _ _=>(kd (kc k3 (kc k0 kn))))
 refine js (jl k1 O29 Z Z) (jyn d0 (kc k3 (kc k3 kn)) (jy Z (jix (i:=0) U29 Z21 d7 Z Z Z (by omega)) (jy Z (jlI (dix d7 0 (by omega)) O21 Z) (jyo Z (js (jl k1 Ey Z Z) (jyn d0 (kc k3 (kc k3 kn)) (jyo Z (jve Dv U3 J21 k0 Z Z fun u138 s138=>jyn d0 (kc k3 (kc k3 kn)) (jy Z (Bs Z Z) (jyo Z ?_))))))))))
 refine jvs k0 Z Z Z (wad (dix d12 0 (by omega))) (jyn d0 (kc k3 (kc k3 kn)) (jy Z (Ak Z) (jy Z (jf Fl Z) (jyo Z (jdq (dlo d13 1 (by omega) (by omega)) fun q35 w35=>jst k1 Z29 Z Z w35.one s6 (jyn d0 (kc k3 (kc k3 kn)) (jyd (jbn ?_))))))))
 have q1:Ag i V me an=Bl (Bl V i.Dst 0) i.Dst (ix an 0):=by simp_all
 have q2:Ab i V me e0=e0:=by simp[hc1,hc2,hc3,hc4,hc5]
 have q3:Ac i V me x0=x0:=by simp[hc1,hc2,hc3,hc4,hc5]
 have q4:Ai i V me=me:=by simp[hc1,hc2,hc3,hc4,hc5]
 have q5:Ah i V cl=cl++([⟨i.Imm,List.map V i.Args⟩]):=by simp[hc1,hc2,hc3,hc4,hc5]
 have q6:Di i an=List.drop 1 an:=by simp[hc1,hc2,hc3,hc4,hc5]
 simp only[q1,q2,q3,q4,q5,q6]
 exact jd0 Z (v104,(resl 1 av 1 an.length)) Z (dc (dlo d13 1 (by omega) (by omega)) dn) (fun _ _=>(kd (kc k3 (kc k0 kn))))
 refine jsk (jbn ?_)
 have q1:Ag i V me an=Bl V i.Dst 0:=by simp_all
 have q2:Ab i V me e0=e0:=by simp[hc1,hc2,hc3,hc4,hc5]
 have q3:Ac i V me x0=x0:=by simp[hc1,hc2,hc3,hc4,hc5]
 have q4:Ai i V me=me:=by simp[hc1,hc2,hc3,hc4,hc5]
 have q5:Ah i V cl=cl++([⟨i.Imm,List.map V i.Args⟩]):=by simp[hc1,hc2,hc3,hc4,hc5]
 have q6:Di i an=an:=by simp_all
 simp only[q1,q2,q3,q4,q5,q6]
 exact jd0 Z (v104,av) Z (dc d7 dn) (fun _ _=>(kc k1 (kc k0 (kc k3 (kc k0 kn)))))
 refine jq (jr (js (Ao Z Z) (ja Z (jn (jx ?_)))))
 refine jif Z (fun hc6=>?_) (fun hc6=>?_)
 have ho2:=ho2 hc1 hc2 hc4
 refine Bz false (.a 0 (.a 1 (.a 2 (.a 3 (.a 4 (.a 5 (.a 6 (.a 7 (.a 8 (.a 9 (.a 10 (.a 11 (.a 12 (.a 13 (.a 14 (.a 15 (.a 16 (.a 17 (.o 18 (.a 19 (.a 20 (.a 21 (.o 22 (.o 23 .e)))))))))))))))))))))))) Bi (by kernel_rfl) (kc k0 (kc k1 (kc k1 (kc k1 kn)))) fun F36=>jy Z (jl k3 Ez Z Z) (jy Z (Ak Z) (jy Z (jf Jr Z) (jy Z (jl k0 Ey Z Z) (jy Z (jf Gn Z) (jy Z (jl k2 O3 Z Z) (jy Z (jl k3 Ez Z Z) (jy Z (Ak Z) (jy Z (jf Jr Z) (jy Z (jl k0 Ey Z Z) (jy Z (jf Vm Z) ?_))))))))))
 refine jy Z (jl k2 O3 Z Z) (jy Z (jmv Z) (jy Z (jig (i:=0) U29 Z21 k1 Z Z Z (by first|omega|(simp<;>omega))) (jy Z (jgI k1 (by first|omega|(simp<;>omega)) O21 Z) (jy Z (jmv Z) (jy Z (jig (i:=1) U29 Z21 k1 Z Z Z (by first|omega|(simp<;>omega))) (jy Z (jgI k1 (by first|omega|(simp<;>omega)) O21 Z) (jyo Z (jwr (wgl (i:=0) k2 (by omega)) fun w38=>jwr (wgl (i:=1) k2 (by omega)) fun w39=>jcv E87 Z Z (EI (ix (List.map V i.Args) 0) (ix (List.map V i.Args) 1) w38 w39) dn kn (jyn d0 (kc k0 (kc k1 (kc k1 (kc k1 kn)))) ?_)))))))))
 refine jy Z (jmv Z) (jy Z (Bs Z Z) (jy Z (Bs Z Z) (jyo Z (jvu Dv U3 k1 Z Z Z (wp (JE.wrap_wrap _ _)) (jyn d0 (kc k1 (kc k1 (kc k1 (kc k1 kn)))) (jyo Z (jvu Dv U3 k0 Z Z Z (wp (JE.wrap_wrap _ _)) (jyn d0 (kc k1 (kc k1 (kc k1 (kc k1 kn)))) (jyd (jbn ?_))))))))))
 have q1:Ag i V me an=Bl (Bl V i.Dst ((Gs (ix (List.map V i.Args) 0) (ix (List.map V i.Args) 1)).1)) i.Two ((Gs (ix (List.map V i.Args) 0) (ix (List.map V i.Args) 1)).2):=by simp[hc1,hc2,hc3,hc4,hc6]
 have q2:Ab i V me e0=e0:=by simp[hc1,hc2,hc3,hc4,hc6]
 have q3:Ac i V me x0=x0:=by simp[hc1,hc2,hc3,hc4,hc6]
 have q4:Ai i V me=me:=by simp[hc1,hc2,hc3,hc4,hc6]
 have q5:Ah i V cl=cl:=by simp[hc1,hc2,hc3,hc4,hc6]
 have q6:Di i an=an:=by simp[hc1,hc2,hc3,hc4,hc6]
 simp only[q1,q2,q3,q4,q5,q6]
 exact jd0 Z (cv,av) Z (dc d3 dn) (fun _ _=>(kc k1 (kc k0 (kc k3 (kc k3 kn)))))
 have ho2:=ho2 hc1 hc2 hc4
 refine jq (Bz false (.a 0 (.a 1 (.a 2 (.a 3 (.a 4 (.a 5 (.a 6 (.a 7 (.o 8 (.a 9 (.a 10 (.a 11 (.a 12 (.a 13 .e)))))))))))))) Bi (by kernel_rfl) (kc k2 (kc k2 kn)) fun F42=>jy Z (jf Ke Z) (jy Z (jl k1 O3 Z Z) (jy Z (jmv Z) (jy Z (jig (i:=0) U29 Z21 k0 Z Z Z (by first|omega|(simp<;>omega))) (jy Z (jgI k0 (by first|omega|(simp<;>omega)) O21 Z) (jy Z (jmv Z) (jy Z (jig (i:=1) U29 Z21 k0 Z Z Z (by first|omega|(simp<;>omega))) (jy Z (jgI k0 (by first|omega|(simp<;>omega)) O21 Z) (jyo Z (jcv E84 Z Z (EL i.Op (ix (List.map V i.Args) 0) (ix (List.map V i.Args) 1)) dn kn ?_))))))))))
 refine jyn d0 (kc k2 (kc k2 kn)) (jy Z (jmv Z) (jy Z (Bs Z Z) (jy Z (Bs Z Z) (jy Z (jas Z) (jy Z (jas Z) (jyd (jx (jq (Bz false (.a 0 (.a 1 (.a 2 (.a 3 (.a 4 (.a 5 (.a 6 (.o 7 .e)))))))) Bi (by kernel_rfl) (kc k0 (kc k2 (kc k2 kn))) fun F44=>jy Z (jl k2 Ez Z Z) (jy Z (Ak Z) ?_))))))))))
 refine jy Z (jf Jr Z) (jy Z (jl k0 Ey Z Z) (jy Z (jf Gn Z) (jy Z (jl k1 O3 Z Z) (jy Z (jmv Z) (jyo Z (jvu Dv U3 k1 Z Z Z (wdo (wgl k2 (by omega))) (jyn d0 (kc k1 (kc k2 (kc k2 kn))) (jyd (jx (jq (jr ?_)))))))))))
 refine jm Z (js (Dq Z) (jn (jx ?_)))
 refine jif Z (fun hc7=>?_) (fun hc7=>?_)
 refine jr (js (jl k4 Ez Z Z) (jc Sc Z Z (Qw _ _ Z w1.one w2.one w3.one) dn (kc k1 kn) (fun _=>p0) (fun _=>p1) fun _=>jn (jbn ?_)))
 have q1:Ag i V me an=Bl V i.Dst ((doM i.Op (ix (List.map V i.Args) 0) (ix (List.map V i.Args) 1)).1):=by simp[hc1,hc2,hc3,hc4,hc6,hc7]
 have q2:Ab i V me e0=2:=by simp[hc1,hc2,hc3,hc4,hc6,hc7]
 have q3:Ac i V me x0=(-1):=by simp[hc1,hc2,hc3,hc4,hc6,hc7]
 have q4:Ai i V me=me:=by simp[hc1,hc2,hc3,hc4,hc6,hc7]
 have q5:Ah i V cl=cl:=by simp[hc1,hc2,hc3,hc4,hc6,hc7]
 have q6:Di i an=an:=by simp[hc1,hc2,hc3,hc4,hc6,hc7]
 simp only[q1,q2,q3,q4,q5,q6]
 exact jd0 Z (cv,av) Z (dc d2 dn) (fun _ _=>(kd (kc k3 (kc k3 kn))))
 refine jsk (jbn ?_)
 have q1:Ag i V me an=Bl V i.Dst ((doM i.Op (ix (List.map V i.Args) 0) (ix (List.map V i.Args) 1)).1):=by simp[hc1,hc2,hc3,hc4,hc6,hc7]
 have q2:Ab i V me e0=e0:=by simp[hc1,hc2,hc3,hc4,hc6,hc7]
 have q3:Ac i V me x0=x0:=by simp[hc1,hc2,hc3,hc4,hc6,hc7]
 have q4:Ai i V me=me:=by simp[hc1,hc2,hc3,hc4,hc6,hc7]
 have q5:Ah i V cl=cl:=by simp[hc1,hc2,hc3,hc4,hc6,hc7]
 have q6:Di i an=an:=by simp[hc1,hc2,hc3,hc4,hc6,hc7]
 simp only[q1,q2,q3,q4,q5,q6]
 exact jd0 Z (cv,av) Z (dc d2 dn) (fun _ _=>(kc k1 (kc k0 (kc k3 (kc k3 kn)))))
end Go.Proofs.YtmfkkodnghambaaGreat
namespace Go.Proofs.YtmfkkodnghambaaGreat
open Go.JE
theorem E26:Ent Tryz.prog 26:=⟨_,Tryz.func26,by kernel_rfl,by kernel_rfl⟩
theorem E48:Ent Tryz.prog 48:=⟨_,Tryz.func48,by kernel_rfl,by kernel_rfl⟩
theorem E49:Ent Tryz.prog 49:=⟨_,Tryz.func49,by kernel_rfl,by kernel_rfl⟩
theorem E50:Ent Tryz.prog 50:=⟨_,Tryz.func50,by kernel_rfl,by kernel_rfl⟩
theorem E51:Ent Tryz.prog 51:=⟨_,Tryz.func51,by kernel_rfl,by kernel_rfl⟩
end Go.Proofs.YtmfkkodnghambaaGreat
namespace Go.Proofs.YtmfkkodnghambaaGreat
open Go.JE
def Aq(vs:List Int):Int→Int:=fun k=>if 0≤k∧k<vs.length then ix vs k.toNat else 0
theorem Sg{vs:List Int}{k:Int}(h:0≤k∧k<vs.length):Aq vs k=ix vs k.toNat:=if_pos h
theorem Qo{vs:List Int}{k x:Int}(h:0≤k∧k<vs.length):Aq (vs.set k.toNat x)=Bl (Aq vs) k x:=by
 funext j
 show(if 0≤j∧j<(vs.set k.toNat x).length then ix (vs.set k.toNat x) j.toNat else 0)=if j=k then x else if 0≤j∧j<vs.length then ix vs j.toNat else 0
 rw[List.length_set]
 by_cases e:j=k
 ·subst e;rw[if_pos h,if_pos rfl,Ch (by omega),if_pos rfl]
 ·rw[if_neg e]
  by_cases h2:0≤j∧j<vs.length
  ·rw[if_pos h2,if_pos h2,Ch (by omega),if_neg (by omega)]
  ·rw[if_neg h2,if_neg h2]
theorem FD{n:Nat}:Aq (List.replicate n 0)=fun _=>0:=by
 funext j;unfold Aq;split
 ·rename_i h
  rw[List.length_replicate] at h
  rw[Bp (by simp;omega)];simp
 ·rfl
theorem KM(V:Int→Int):Mu [] V=V:=by funext j;simp[Mu,lkW]
theorem C3{fr:Int}{vs:List Int}:∀(l:List D.Phi) (nx:List (Int×Int)) (r:List Int),r.length=vs.length→Aq r=Mu nx (Aq vs)→(∀p∈l,(0≤p.Dst∧p.Dst<vs.length)∧(∀x∈p.In,0≤x.Val∧x.Val<vs.length)∧fr∈p.In.map (fun x=>x.From))→Aq (Hn r l (l.map (Pe fr vs)))=Mu (Ms fr (Aq vs) l nx) (Aq vs)
 | [],nx,r,_,h,_=>h
 | p::l,nx,r,hl,h,hg=>by
  obtain⟨g1,g2,g3⟩:=hg p (by simp)
  obtain⟨i1,i2⟩:=Yh g3
  have hx:=g2 _ (Ax (l:=p.In) (i:=Int.toNat (Dw p.In (Eo fr))) (by omega))
  have hv:Pe fr vs p=Aq vs (ix p.In (Int.toNat (Dw p.In (Eo fr)))).Val:=(Sg hx).symm
  rw[List.map_cons,Hn,hv]
  refine C3 l (upW nx p.Dst (Aq vs (ix p.In (Int.toNat (Dw p.In (Eo fr)))).Val)) _ (by rw[List.length_set];exact hl) ?_ (fun q hq=>hg q (by simp[hq]))
  rw[Qo (by rw[hl];exact g1),h]
  funext j;unfold Mu Bl;rw[U9];split<;>rfl
theorem FE{fr:Int}{vs:List Int}{l:List D.Phi}(hg:∀p∈l,(0≤p.Dst∧p.Dst<vs.length)∧(∀x∈p.In,0≤x.Val∧x.Val<vs.length)∧fr∈p.In.map (fun x=>x.From)):Aq (Mp l fr vs)=Qy fr l (Aq vs) :=
 C3 l [] vs rfl (KM _).symm hg
theorem GC{en st N:Int}(h:en≠0):stE en st N=en:=by unfold stE;rw[if_neg (fun h9=>h h9.1)]
theorem G5{N:Int}{s:RSt}(h:s.en≠0):Es N s=s:=by
 unfold Es stE stV stS
 rw[if_neg (fun h9=>h h9.1),if_neg (fun h9=>h h9.1),if_neg]
 unfold stE;rw[if_neg (fun h9=>h h9.1)];exact h
theorem G4{N:Int}{s:RSt}(h:s.en≠0):Fd N s=false:=by unfold Fd stB;rw[GC h];simpa using h
theorem ML{N:Int}{s:RSt}(h:s.en≠0):∀l:List D.Ins,(Cy N l s).1=s
 | []=>rfl
 | i::l=>by rw[Cy,if_neg (by rw[G4 h];decide)];exact G5 h
theorem SI{bs:List D.Block}{N a fr:Int}{k j:Nat}{s s':RSt}(h:Cy N (ix bs a.toNat).Ins (Fy fr (ix bs a.toNat).Phis s)=Cy N ((ix bs a.toNat).Ins.drop j) s')(he:s'.en≠0)(hk:0<k):Fj bs N k a fr s=s':=by
 have h1:=ML (N:=N) he ((ix bs a.toNat).Ins.drop j)
 rw[←h] at h1
 obtain⟨m,rfl⟩:∃m,k=m+1:=⟨k-1,by omega⟩
 rw[Fj,h1]
 split
 ·rw[if_neg (by rw[G4 he];decide)];exact G5 he
 ·rfl
def B8:D.Outcome:=⟨4,0,[],[],0⟩
def Ml(r:Bool)(f:D.Func)(i:D.Input):D.Outcome:=if r then En f i else B8
theorem K0{r:Bool}{f:D.Func}{i:D.Input}(h:r=false):Ml r f i=B8:=by unfold Ml;rw[h];rfl
theorem Qt{r:Bool}{f:D.Func}{i:D.Input}(h:r=true):Ml r f i=En f i:=by unfold Ml;rw[h];rfl
theorem SW(a:D.Outcome):Vf a a=true:=SX a
theorem Vy{t:D.Term}{vs:List Int}(h:0<t.Args.length)(hv:∀a∈t.Args,0≤a∧a<vs.length):ix (wT t (Aq vs)) 0=ix vs (Int.toNat (ix t.Args 0)):=by
 unfold wT
 rw[Up (by simpa using h),Ia h,Sg (hv _ (Ax h))]
theorem EK{t:D.Term}{V:Int→Int}(h:¬0<t.Args.length):ix (wT t V) 0=0:=by
 unfold wT
 rw[List.eq_nil_of_length_eq_zero (show t.Args.length=0 by omega)];rfl
theorem Ob{i:D.Ins}{vs:List Int}{k:Nat}(hv:∀a∈i.Args,0≤a∧a<vs.length)(h:k<i.Args.length):aI i (Aq vs) k=ix vs (Int.toNat (ix i.Args k)):=by
 unfold aI;rw[Ia h,Sg (hv _ (Ax h))]
theorem CT{i:D.Ins}{vs:List Int}(hv:∀a∈i.Args,0≤a∧a<vs.length):i.Args.map (fun r=>ix vs r.toNat)=i.Args.map (Aq vs):=List.map_congr_left (fun a ha=>(Sg (hv a ha)).symm)
def nA(i:D.Ins)(na:Nat):Nat:=if i.Op=17 then na+1 else na
theorem OU{i:D.Ins}{an:List Int}{na:Nat}:Di i (an.drop na)=an.drop (nA i na):=by
 unfold Di nA;split
 ·rw[List.drop_drop]
 ·rfl
def De(i:D.Ins)(vs me an:List Int)(na:Nat)(ws:List Int):Prop:=ws.length=vs.length∧(Ae i (Aq vs) me=0→Aq ws=Ag i (Aq vs) me (an.drop na))
theorem De.trap{i:D.Ins}{vs me an:List Int}{na:Nat}(h:Ae i (Aq vs) me≠0):De i vs me an na vs:=⟨rfl,fun h9=>absurd h9 h⟩
theorem De.no{i:D.Ins}{vs me an:List Int}{na:Nat}(h:Ag i (Aq vs) me (an.drop na)=Aq vs):De i vs me an na vs:=⟨rfl,fun _=>h.symm⟩
theorem De.one{i:D.Ins}{vs me an:List Int}{na:Nat}{d x:Int}(hd:0≤d∧d<vs.length)(h:Ag i (Aq vs) me (an.drop na)=Bl (Aq vs) d x):De i vs me an na (vs.set d.toNat x):=⟨by simp,fun _=>by rw[Qo hd,h]⟩
theorem De.two{i:D.Ins}{vs me an:List Int}{na:Nat}{d x d2 x2:Int}(hd:0≤d∧d<vs.length)(hd2:0≤d2∧d2<vs.length)(h:Ag i (Aq vs) me (an.drop na)=Bl (Bl (Aq vs) d x) d2 x2):De i vs me an na ((vs.set d.toNat x).set d2.toNat x2):=⟨by simp,fun _=>by rw[Qo (by simpa using hd2),Qo hd,h]⟩
theorem Io{an:List Int}{na:Nat}:0<(an.drop na).length↔(na:Int)<an.length:=by rw[List.length_drop];omega
theorem Jm{an:List Int}{na:Nat}:ix (an.drop na) 0=ix an na:=by simp[ix,List.getD]
def C2(n:Nat)(l:List D.Phi)(fr:Int):Prop:=∀p∈l,((0≤p.Dst∧p.Dst<n)∧(∀x∈p.In,0≤x.Val∧x.Val<n)∧fr∈p.In.map (fun x=>x.From))∧(p.In.map (fun x=>x.From)).Nodup
theorem Oi:Ent Tryz.prog 106:=⟨_,Tryz.func106,by kernel_rfl,by kernel_rfl⟩
theorem La:Fld Tryz.prog 122 0 0:=⟨_,_,Tryz.underlying122,rfl,rfl,1,(by unfold Sz;kernel_rfl),by decide⟩
theorem Kg:Fld Tryz.prog 122 1 1:=⟨_,_,Tryz.underlying122,rfl,rfl,5,(by unfold Sz;kernel_rfl),by decide⟩
theorem Zw:Fld Tryz.prog 122 2 6:=⟨_,_,Tryz.underlying122,rfl,rfl,4,(by unfold Sz;kernel_rfl),by decide⟩
theorem Vp:Fld Tryz.prog 122 4 11:=⟨_,_,Tryz.underlying122,rfl,rfl,1,(by unfold Sz;kernel_rfl),by decide⟩
theorem Np{g0:Nat}{v0 m0 c0 ia im a0:Value}{e0 x0 st0 ss0 na:Int}{n0:Bool}(kd:Int)(x:Int)(ov:v0.oneCell'=true)(om:m0.oneCell'=true)(oc:c0.oneCell'=true)(oi:ia.oneCell'=true)(oj:im.oneCell'=true)(oa:a0.oneCell'=true):Tr Tryz.prog 106 #[.pointer (some ⟨g0,0,none⟩),.int .i64 kd,.int .i32 x] [] [bx g0 122 [v0,.int .i64 e0,.int .i32 x0,m0,c0,.int .i64 st0,ia,im,a0,.int .i64 ss0,.int .i64 na,.bool n0]] (fun _:Unit => .tuple #[]) (fun _=>[]) (fun _ _=>[bx g0 122 [v0,.int .i64 kd,.int .i32 x,m0,c0,.int .i64 st0,ia,im,a0,.int .i64 ss0,.int .i64 na,.bool true]]):=by
 refine Az (args:=[.pointer (some ⟨g0,0,none⟩),.int .i64 kd,.int .i32 x]) Tryz.func106 rfl rfl rfl fun w0 X=>?_
 refine jq (jr (jm Z (js (Ak Z) (js (jf Vp Z) (jst k0 Z4 Z Z Z s11 (jn (jx (jq (jr (jm Z (jm Z ?_)))))))))))
 refine js (Ak Z) (js (jf Kg Z) (js (jf Lw Z) (jst k0 Z3 Z Z Z s1 (jn (jx (jr (jm Z (jm Z (js (Ak Z) (js (jf Kg Z) (js (jf Qe Z) ?_)))))))))))
 refine jst k0 Z21 Z Z Z s2 (jn ?_)
 exact jd0 Z () Z dn (fun _ _=>(kc k0 kn))
theorem M2{g0:Nat}{v0 m0 c0 ia im a0:Value}{x0 st0 ss0 na:Int}(ov:v0.oneCell'=true)(om:m0.oneCell'=true)(oc:c0.oneCell'=true)(oi:ia.oneCell'=true)(oj:im.oneCell'=true)(oa:a0.oneCell'=true)(hs9:0≤st0∧st0≤1000000000):Tr Tryz.prog 56 #[.pointer (some ⟨g0,0,none⟩)] [] [bx g0 122 [v0,.int .i64 0,.int .i32 x0,m0,c0,.int .i64 st0,ia,im,a0,.int .i64 ss0,.int .i64 na,.bool false]] (fun _:Unit => .bool (stB 0 st0 ss0)) (fun _=>[]) (fun _ _=>[bx g0 122 [v0,.int .i64 (stE 0 st0 ss0),.int .i32 (stV 0 x0 st0 ss0),m0,c0,.int .i64 (stS 0 st0 ss0),ia,im,a0,.int .i64 ss0,.int .i64 na,.bool (!stB 0 st0 ss0)]]):=by
 refine Az (args:=[.pointer (some ⟨g0,0,none⟩)]) Tryz.func56 rfl rfl rfl fun w0 X=>?_
 refine jq (jr (ja Z (jn (jx (jq (jq (Gh Bi (by kernel_rfl) (jt (jmv Z) (jt (Ak Z) (jt (jf Kg Z) (jt (jf Lv Z) ?_)))))))))))
 refine jt (jl k0 O3 Z Z) (jt (jmv Z) (jt (Ak Z) (jt (jf Zw Z) (jt (jf Zt Z) (jt (jl k0 O3 Z Z) (jt (Gj Z Z) (jdn (jx ?_))))))))
 refine jif Z (fun hc1=>?_) (fun hc1=>?_)
 refine jq (jr (jm Z (jc Oi Z Z (Np _ _ ov om oc oi oj oa) dn (kc k0 kn) (fun _=>p0) (fun _=>p1) fun _=>jn (jx (jq (jr (ja Z (jn (jx (jrt ?_))))))))))
 refine jtr ?_
 have q1:stE 0 st0 ss0=3:=by simp_all[stE,stV,stB,stS]<;>omega
 have q2:stV 0 x0 st0 ss0=0:=by simp_all[stE,stV,stB,stS]<;>omega
 have q3:stS 0 st0 ss0=st0:=by simp_all[stE,stV,stB,stS]<;>omega
 have q4:stB 0 st0 ss0=false:=by simp_all[stE,stV,stB,stS]<;>omega
 have q5:(!stB 0 st0 ss0)=true:=by simp_all[stE,stV,stB,stS]<;>omega
 rw[q5,q1,q2,q3,q4]
 exact jr1 Z Z () Z dn (fun _ _=>(kc k0 kn))
 refine jsk (jx (jq (jr (jm Z (js (Ak Z) (js (jf Kg Z) (js (jf Lv Z) (js (jl k0 O3 Z Z) (js (Al Z Z (by omega)) (js (Ak Z) (js (jf Kg Z) ?_)))))))))))
 refine js (jf Lv Z) (jst k0 Z3 Z Z Z s5 (jn (jx (jq (jr (ja Z (jn (jx (jrt ?_)))))))))
 have q1:stE 0 st0 ss0=0:=by simp_all[stE,stV,stB,stS]<;>omega
 have q2:stV 0 x0 st0 ss0=x0:=by simp_all[stE,stV,stB,stS]<;>omega
 have q3:stS 0 st0 ss0=st0+1:=by simp_all[stE,stV,stB,stS]<;>omega
 have q4:stB 0 st0 ss0=true:=by simp_all[stE,stV,stB,stS]<;>omega
 have q5:(!stB 0 st0 ss0)=false:=by simp_all[stE,stV,stB,stS]<;>omega
 rw[q5,q1,q2,q3,q4]
 exact jr1 Z Z () Z dn (fun _ _=>(kc k0 kn))
theorem Kn{g0 Bv:Nat}{vv:Value}{vs:List Int}{m0 c0 ia im a0:Value}{e0 x0 st0 ss0 na:Int}{n0:Bool}{a1:Value}{l:List Int}(i:Nat)(om:m0.oneCell'=true)(oc:c0.oneCell'=true)(oi:ia.oneCell'=true)(oj:im.oneCell'=true)(oa:a0.oneCell'=true)(hi:i<l.length)(hv:0≤ix l i∧ix l i<vs.length):Tr Tryz.prog 108 #[.pointer (some ⟨g0,0,none⟩),a1,.int .i64 (i:Int)] [dv (rL (rI .i64)) a1 l] [bx g0 122 [vv,.int .i64 e0,.int .i32 x0,m0,c0,.int .i64 st0,ia,im,a0,.int .i64 ss0,.int .i64 na,.bool n0],gl Bv (rI .i32) 21 vv vs] (fun _:Unit => .int .i32 (ix vs (Int.toNat (ix l i)))) (fun _=>[]) (fun _ _=>[bx g0 122 [vv,.int .i64 e0,.int .i32 x0,m0,c0,.int .i64 st0,ia,im,a0,.int .i64 ss0,.int .i64 na,.bool n0],gl Bv (rI .i32) 21 vv vs]):=by
 refine Az (args:=[.pointer (some ⟨g0,0,none⟩),a1,.int .i64 (i:Int)]) Tryz.func108 rfl rfl rfl fun w0 X=>?_
 refine cgo k1 fun w1=>jq (jr (ja Z (jn (jx (jq (Gh Bi (by kernel_rfl) (jt (jmv Z) (jt (Ak Z) (jt (jf La Z) (jt (jl k0 O29 Z Z) ?_))))))))))
 refine jt (jmv Z) (jt (jmv Z) (tdq d0 fun q2 w2=>jt (jix U22 Z3 d0 Z Z Z (by omega)) (jt (jlI (dix d0 i (by omega)) O3 Z) (jt (jig (i:=(Int.toNat (ix l i))) U29 Z21 k1 Z Z (by omega) (by omega)) (jt (jgI k1 (by omega) O21 Z) (jt (jas Z) (jdn (jx (jrt ?_)))))))))
 exact jr1 Z Z () Z dn (fun _ _=>(kd kn))
end Go.Proofs.YtmfkkodnghambaaGreat
namespace Go.Proofs.YtmfkkodnghambaaGreat
open Go.JE
theorem IQ{g0 Bv:Nat}{vv:Value}{vs:List Int}{m0 c0 ia im a0:Value}{e0 x0 st0 ss0 na:Int}{n0:Bool}{a1:Value}{l:List D.Phi}(fr:Int)(om:m0.oneCell'=true)(oc:c0.oneCell'=true)(oi:ia.oneCell'=true)(oj:im.oneCell'=true)(oa:a0.oneCell'=true)(hp:C2 vs.length l fr):Tr Tryz.prog 55 #[.pointer (some ⟨g0,0,none⟩),a1,.int .i64 fr] [dv (rL Aw) a1 l] [bx g0 122 [vv,.int .i64 e0,.int .i32 x0,m0,c0,.int .i64 st0,ia,im,a0,.int .i64 ss0,.int .i64 na,.bool n0],gl Bv (rI .i32) 21 vv vs] (fun _:Unit => .tuple #[]) (fun _=>[]) (fun _ _=>[bx g0 122 [vv,.int .i64 e0,.int .i32 x0,m0,c0,.int .i64 st0,ia,im,a0,.int .i64 ss0,.int .i64 na,.bool n0],gl Bv (rI .i32) 21 vv (Mp l fr vs)]):=by
 refine Az (args:=[.pointer (some ⟨g0,0,none⟩),a1,.int .i64 fr]) Tryz.func55 rfl rfl rfl fun w0 X=>?_
 refine cgo k1 fun w1=>jq (jr (Bg (r:=(rI .i32)) (l:=[]) U29 I21 (by decide) Z Z Z ln fun g11=>ja Z (jn (jx (jq (jq (jr (ja Z (jn ?_)))))))))
 refine jx (jb ?_)
 refine jlp (u3 fun(k:Nat) (ws:List Int) (vo:Value)=>⟨k≤l.length∧ws=(l.take k).map (Pe fr vs),[dv (rL Aw) a1 l],[gl X.n (rI .i32) 21 vo ws,bx g0 122 [vv,.int .i64 e0,.int .i32 x0,m0,c0,.int .i64 st0,ia,im,a0,.int .i64 ss0,.int .i64 na,.bool n0],gl Bv (rI .i32) 21 vv vs],[(0,.pointer (some ⟨g0,0,none⟩)),(1,a1),(2,.int .i64 fr),(6,vo),(7,.int .i64 (↑k))],l.length-k⟩) (0,[],(.slice (some ⟨g11,0,none⟩) 0 0)) ⟨by dsimp only;omega,rfl⟩ (dc d0 dn) (kd (kc k0 kn)) ⟨Z,Z,Z,Z,eqI (by omega),trivial⟩ ?_
 rintro⟨k,ws,vo⟩;dsimp only[u3];rintro⟨hk,hws⟩
 refine cgo k0 fun w2=>?_
 have hwl:ws.length=k:=by rw[hws];simp;omega
 refine jq (jq (jr (jm Z (jm Z (jdq d0 fun q3 w3=>js (jln U57 d0 Z) (js (Ar Z Z) (jn (jx ?_))))))))
 refine jif Z (fun hc1=>?_) (fun hc1=>?_)
 have hp9:=hp _ (Ax (l:=l) (i:=k) (by omega))
 refine jsk (jx (jq (jb (jq (jr (ja Z (jn (jx (jq (jq (jr ?_)))))))))))
 refine ja Z (jn (jx (jb ?_)))
 refine jlp (u2 fun(m2:Nat) (v:Int)=>⟨m2≤(ix l k).In.length∧v=Ll fr vs 0 ((ix l k).In.take m2)∧IntKind.i32.wrap v=v,[dv (rL Aw) a1 l],[gl X.n (rI .i32) 21 vo ws,bx g0 122 [vv,.int .i64 e0,.int .i32 x0,m0,c0,.int .i64 st0,ia,im,a0,.int .i64 ss0,.int .i64 na,.bool n0],gl Bv (rI .i32) 21 vv vs],[(0,.pointer (some ⟨g0,0,none⟩)),(1,a1),(2,.int .i64 fr),(6,vo),(7,.int .i64 (↑k)),(8,.int .i32 v),(9,.int .i64 (↑m2))],(ix l k).In.length-m2⟩) (0,0) ⟨by dsimp only;omega,rfl,by decide⟩ (dc d0 dn) (kd (kc k0 kn)) ⟨Z,Z,Z,Z,Z,eqI (by omega),eqI (by omega),trivial⟩ ?_
 rintro⟨m2,v⟩;dsimp only[u2];rintro⟨hm2x,hv,hvw⟩
 refine jq (jq (jr (jm Z (jm Z (jm Z (js (jix U57 Z65 d0 Z Z Z (by omega)) (js (jf Fa Z) (jev (jlV (Aw.A_In (dix d0 k (by omega))) O63 Z Z) fun v23 q4 w4=>js (jln U63 d0 Z) (js (Ar Z Z) (jn ?_))))))))))
 refine jx ?_
 refine jif Z (fun hc2=>?_) (fun hc2=>?_)
 refine jsk (jx (jq (jb (jq (jr (jm Z (jm Z (js (jix U57 Z65 d1 Z Z Z (by omega)) (js (jf Fa Z) (jev (jlV (Aw.A_In (dix d1 k (by omega))) O63 Z Z) fun v32 q6 w6=>jm Z ?_))))))))))
 refine js (jix U63 Hh d0 Z Z Z (by omega)) (js (jf Ng Z) (js (jlI (rIn.A_From (dix d0 m2 (by omega))) O3 Z) (jm Z (js (Ao Z Z) (jn (jx ?_))))))
 refine jif Z (fun hc3=>?_) (fun hc3=>?_)
 have hx9:=hp9.1.2.1 _ (Ax (l:=(ix l k).In) (i:=m2) (by omega))
 refine Gh Bi (by kernel_rfl) (jt (jmv Z) (jt (Ak Z) (jt (jf La Z) (jt (jl k1 O29 Z Z) (jt (jmv Z) (jt (jmv Z) (jt (jix U57 Z65 d2 Z Z Z (by omega)) (jt (jf Fa Z) (jtv (jlV (Aw.A_In (dix d2 k (by omega))) O63 Z Z) fun v47 q8 w8=>jt (jmv Z) (jt (jix U63 Hh d0 Z Z Z (by omega)) ?_))))))))))
 refine jt (jf Qi Z) (jt (jlI (rIn.A_Val (dix d0 m2 (by omega))) O3 Z) (jt (jig (i:=(Int.toNat ((ix ((ix l k).In) m2).Val))) U29 Z21 k2 Z Z (by omega) (by omega)) (jt (jgI k2 (by omega) O21 Z) (jt (jas Z) (jdn (jbn (jx (jr (jm Z (js (Al Z Z (by omega)) (ja Z ?_)))))))))))
 refine jn (qwr (wgl (i:=(Int.toNat ((ix ((ix l k).In) m2).Val))) k2 (by omega)) fun w10=>?_)
 exact jag (m2+1,ix vs (Int.toNat ((ix ((ix l k).In) m2).Val))) ⟨by dsimp only;omega,by dsimp only;rw[Ej (by omega),Xw];first|(rw[if_pos hc3];done)|(rw[if_neg hc3];exact hv),by dsimp only;exact w10⟩ (dc d3 dn) (kd (kc k0 kn)) ⟨Z,Z,Z,Z,Z,Z,eqI (by omega),trivial⟩
 refine jsk (jbn (jx (jr (jm Z (js (Al Z Z (by omega)) (ja Z (jn ?_)))))))
 exact jag (m2+1,v) ⟨by dsimp only;omega,by dsimp only;rw[Ej (by omega),Xw];first|(rw[if_pos hc3];done)|(rw[if_neg hc3];exact hv),by dsimp only;exact hvw⟩ (dc d2 dn) (kd (kc k0 kn)) ⟨Z,Z,Z,Z,Z,Z,eqI (by omega),trivial⟩
 refine jex (jtx (jtx (jbh (jx (jr (jm Z (jm Z (Gk U29 I21 (by decide) Z Z k0 Z (wI (wp hvw)) (by omega) (fun _=>Z) fun v57 _ w11=>ja Z (jn (jbn ?_))))))))))
 refine jx (jr (jm Z (js (Al Z Z (by omega)) (ja Z (jn ?_)))))
 exact jag (k+1,ws++[v],v57) ⟨by dsimp only;omega,by dsimp only;rw[hws,Ej (l:=l) (by omega),List.map_append,JX hv (by omega) hp9.2 (Yh hp9.1.2.2).1];rfl⟩ (dc d1 dn) (kd (kc k0 kn)) ⟨Z,Z,Z,Z,eqI (by omega),trivial⟩
 refine jex (jtx (jtx (jbh (jx (jq (jr (ja Z (jn (jx (jb ?_))))))))))
 refine jlp (u2 fun(pz:Nat) (rs2:List Int)=>⟨pz≤l.length∧Hn vs l ws=Hn rs2 (l.drop pz) (ws.drop pz)∧rs2.length=vs.length,[dv (rL Aw) a1 l],[gl X.n (rI .i32) 21 vo ws,bx g0 122 [vv,.int .i64 e0,.int .i32 x0,m0,c0,.int .i64 st0,ia,im,a0,.int .i64 ss0,.int .i64 na,.bool n0],gl Bv (rI .i32) 21 vv rs2],[(0,.pointer (some ⟨g0,0,none⟩)),(1,a1),(6,vo),(10,.int .i64 (↑pz))],l.length-pz⟩) (0,vs) ⟨by dsimp only;omega,rfl,rfl⟩ (dc d0 dn) (kd (kc k0 kn)) ⟨Z,Z,Z,eqI (by omega),trivial⟩ ?_
 rintro⟨pz,rs2⟩;dsimp only[u2];rintro⟨hpz,hS,hrl2⟩
 refine jq (jq (jr (jm Z (jm Z (js (jln U57 d0 Z) (js (Ar Z Z) (jn (jx ?_))))))))
 refine jif Z (fun hc4=>?_) (fun hc4=>?_)
 have hd9:=(hp _ (Ax (l:=l) (i:=pz) (by omega))).1.1
 refine jsk (jx (jq (jb (jtl 14 Bi (by kernel_rfl) (jt (jmv Z) (jt (Ak Z) (jt (jf La Z) (jt (jl k1 O29 Z Z) (jt (jmv Z) (jt (jmv Z) (jt (jix U57 Z65 d0 Z Z Z (by omega)) ?_)))))))))))
 refine jt (jf Rz Z) (jt (jlI (Aw.A_Dst (dix d0 pz (by omega))) O3 Z) (jt (jmv Z) (jt (jmv Z) (jt (jig U29 Z21 k0 Z Z Z (by omega)) (jt (jgI k0 (by omega) O21 Z) (jt (jig (i:=(Int.toNat ((ix l pz).Dst))) U29 Z21 k2 Z Z (by omega) (by omega)) (jtt (jsg k2 Z Z21 Z Z Z (by omega) (wI (wgl k0 (by omega))) (jn (jbn (jx ?_)))))))))))
 refine jr (jm Z (js (Al Z Z (by omega)) (ja Z (jn ?_))))
 exact jag (pz+1,List.set rs2 (Int.toNat ((ix l pz).Dst)) (ix ws pz)) ⟨by dsimp only;omega,GU (by omega) (by omega) hS,by dsimp only;rw[List.length_set];exact hrl2⟩ (dc d0 dn) (kc k1 (kc k1 (kc k0 kn))) ⟨Z,Z,Z,eqI (by omega),trivial⟩
 refine jex (jtx (jtx (jbh ?_)))
 obtain rfl:Mp l fr vs=rs2:=JV hS hws (by omega) (by omega)
 exact jd0 Z () Z dn (fun _ _=>(kc k1 (kc k1 kn)))
end Go.Proofs.YtmfkkodnghambaaGreat
namespace Go.Proofs.YtmfkkodnghambaaGreat
open Go.JE
theorem Lb:Ent Tryz.prog 108:=⟨_,Tryz.func108,by kernel_rfl,by kernel_rfl⟩
theorem IP{g0 Bv:Nat}{vv:Value}{vs:List Int}{m0 c0 ia im a0:Value}{x0 st0 ss0 na:Int}{a1a a1b:Value}{t:D.Term}(om:m0.oneCell'=true)(oc:c0.oneCell'=true)(oi:ia.oneCell'=true)(oj:im.oneCell'=true)(oa:a0.oneCell'=true)(hT:∃s,shM t.Kind=some s∧(s.1≤(t.Args.length:Int)∧(t.Args.length:Int)≤s.2.1)∧(s.2.2.1≤(t.To.length:Int)∧(t.To.length:Int)≤s.2.2.2))(hav:∀a∈t.Args,0≤a∧a<vs.length):Tr Tryz.prog 58 #[.pointer (some ⟨g0,0,none⟩),vTerm t (a1a,a1b)] [da Bf (vTerm t (a1a,a1b)) t] [bx g0 122 [vv,.int .i64 0,.int .i32 x0,m0,c0,.int .i64 st0,ia,im,a0,.int .i64 ss0,.int .i64 na,.bool false],gl Bv (rI .i32) 21 vv vs] (fun _:Unit => .int .i64 (As t (Aq vs))) (fun _=>[]) (fun _ _=>[bx g0 122 [vv,.int .i64 (Au t 0),.int .i32 (Bd t (Aq vs) x0),m0,c0,.int .i64 st0,ia,im,a0,.int .i64 ss0,.int .i64 na,.bool (!decide (Au t 0=0))],gl Bv (rI .i32) 21 vv vs]):=by
 refine Az (args:=[.pointer (some ⟨g0,0,none⟩),vTerm t (a1a,a1b)]) Tryz.func58 rfl rfl rfl fun w0 X=>?_
 refine cgo k1 fun w1=>?_
 have hT9:=Wm hT
 obtain⟨hk0,hk1,hk2,hk3,hka⟩:=hT9
 have hun:=u32_nn (ix vs (Int.toNat (ix t.Args 0)))
 refine jq (jr (Cm Z Z fun g3=>ja Z (jn (jx (jq (jq (jr (js (jf Lu Z) (js (jl k0 O3 Z Z) (jn ?_))))))))))
 refine jx (jb (jq (jr (js (Ao Z Z) (ja Z (jn (jx ?_)))))))
 refine jif Z (fun hc1=>?_) (fun hc1=>?_)
 have hk1:=hk1 hc1
 refine jq (jr (js (jf Ei Z) (js (jl k0 O22 Z Z) (jdq (Bf.c_To d0) fun q2 w2=>js (jix (i:=0) U22 Z3 (Bf.c_To d0) Z Z Z (by omega)) (js (jlI (dix (Bf.c_To d0) 0 (by omega)) O3 Z) (ja Z (jn (jx (jrt (jbr ?_))))))))))
 refine jtr ?_
 have q1:As t (Aq vs)=ix t.To 0:=by first|(simp[As,Au,Bd,hc1];done)|(unfold As;(repeat' split)<;>first|rfl|(exfalso;omega)|(simp_all;done))|(simp[As,hc1];congr 1;omega)
 have q2:Au t 0=0:=by first|(simp[As,Au,Bd,hc1];done)|(unfold Au;(repeat' split)<;>first|rfl|(exfalso;omega)|(simp_all;done))|(simp[As,hc1];congr 1;omega)
 have q3:Bd t (Aq vs) x0=x0:=by first|(simp[As,Au,Bd,hc1];done)|(unfold Bd;(repeat' split)<;>first|rfl|(exfalso;omega)|(simp_all;done))|(simp[As,hc1];congr 1;omega)
 have q4:(!decide (Au t 0=0))=false:=by first|(simp[As,Au,Bd,hc1];done)|(unfold Au;(repeat' split)<;>first|rfl|(exfalso;omega)|(simp_all;done))|(simp[As,hc1];congr 1;omega)
 rw[q4,q1,q2,q3]
 exact jr1 Z Z () Z dn (fun _ _=>(kc k1 (kc k1 kn)))
 refine jq (jr (js (Ao Z Z) (ja Z (jn (jx ?_)))))
 refine jif Z (fun hc2=>?_) (fun hc2=>?_)
 have hk2:=hk2 hc2
 have hw:=Vy (t:=t) (vs:=vs) (by omega) hav
 refine jq (jq (jr (jm Z (js (jf Jq Z) (js (jl k0 O22 Z Z) (jc Lb Z Z (Kn 0 om oc oi oj oa (by omega) (hav _ (Ax (by first|omega|simp;done|decide)))) (dc (Bf.c_Args d0) dn) (kc k1 (kc k1 kn)) (fun _=>p0) (fun _=>p2) fun _=>js (Ga Z Z) (jn (jx ?_))))))))
 refine jif Z (fun hc3=>?_) (fun hc3=>?_)
 refine jq (jr (js (jf Ei Z) (js (jl k2 O22 Z Z) (jdq (Bf.c_To d0) fun q3 w3=>js (jix (i:=0) U22 Z3 (Bf.c_To d0) Z Z Z (by omega)) (js (jlI (dix (Bf.c_To d0) 0 (by omega)) O3 Z) (ja Z (jn (jx (jrt (jtr ?_))))))))))
 refine jbr (jtr ?_)
 have q1:As t (Aq vs)=ix t.To 0:=by first|(simp[As,Au,Bd,hw,hc1,hc2,hc3];done)|(unfold As;(repeat' split)<;>first|rfl|(exfalso;omega)|(simp_all;done))|(simp[As,hw,hc1,hc2,hc3];congr 1;omega)
 have q2:Au t 0=0:=by first|(simp[As,Au,Bd,hw,hc1,hc2,hc3];done)|(unfold Au;(repeat' split)<;>first|rfl|(exfalso;omega)|(simp_all;done))|(simp[As,hw,hc1,hc2,hc3];congr 1;omega)
 have q3:Bd t (Aq vs) x0=x0:=by first|(simp[As,Au,Bd,hw,hc1,hc2,hc3];done)|(unfold Bd;(repeat' split)<;>first|rfl|(exfalso;omega)|(simp_all;done))|(simp[As,hw,hc1,hc2,hc3];congr 1;omega)
 have q4:(!decide (Au t 0=0))=false:=by first|(simp[As,Au,Bd,hw,hc1,hc2,hc3];done)|(unfold Au;(repeat' split)<;>first|rfl|(exfalso;omega)|(simp_all;done))|(simp[As,hw,hc1,hc2,hc3];congr 1;omega)
 rw[q4,q1,q2,q3]
 exact jr1 Z Z () Z dn (fun _ _=>(kd kn))
 refine jsk (jx (jq (jr (js (jf Ei Z) (js (jl k2 O22 Z Z) (jdq (Bf.c_To d0) fun q4 w4=>js (jix (i:=1) U22 Z3 (Bf.c_To d0) Z Z Z (by omega)) (js (jlI (dix (Bf.c_To d0) 1 (by omega)) O3 Z) (ja Z (jn (jx ?_))))))))))
 refine jrt (jbr (jtr ?_))
 have q1:As t (Aq vs)=ix t.To 1:=by first|(simp[As,Au,Bd,hw,hc1,hc2,hc3];done)|(unfold As;(repeat' split)<;>first|rfl|(exfalso;omega)|(simp_all;done))|(simp[As,hw,hc1,hc2,hc3];congr 1;omega)
 have q2:Au t 0=0:=by first|(simp[As,Au,Bd,hw,hc1,hc2,hc3];done)|(unfold Au;(repeat' split)<;>first|rfl|(exfalso;omega)|(simp_all;done))|(simp[As,hw,hc1,hc2,hc3];congr 1;omega)
 have q3:Bd t (Aq vs) x0=x0:=by first|(simp[As,Au,Bd,hw,hc1,hc2,hc3];done)|(unfold Bd;(repeat' split)<;>first|rfl|(exfalso;omega)|(simp_all;done))|(simp[As,hw,hc1,hc2,hc3];congr 1;omega)
 have q4:(!decide (Au t 0=0))=false:=by first|(simp[As,Au,Bd,hw,hc1,hc2,hc3];done)|(unfold Au;(repeat' split)<;>first|rfl|(exfalso;omega)|(simp_all;done))|(simp[As,hw,hc1,hc2,hc3];congr 1;omega)
 rw[q4,q1,q2,q3]
 exact jr1 Z Z () Z dn (fun _ _=>(kd kn))
 refine jq (jr (js (Ao Z Z) (ja Z (jn (jx ?_)))))
 refine jif Z (fun hc4=>?_) (fun hc4=>?_)
 have hk3:=hk3 hc4
 have hw:=Vy (t:=t) (vs:=vs) (by omega) hav
 refine jq (jr (jm Z (js (jf Jq Z) (js (jl k0 O22 Z Z) (jc Lb Z Z (Kn 0 om oc oi oj oa (by omega) (hav _ (Ax (by first|omega|simp;done|decide)))) (dc (Bf.c_Args d0) dn) (kc k1 (kc k1 kn)) (fun _=>p0) (fun _=>p2) fun _=>js (jco U21 Gc Z Z) (ja Z (jn (jx (jq (jr ?_))))))))))
 refine js (jf Ei Z) (js (jl k2 O22 Z Z) (jdq (Bf.c_To d0) fun q5 w5=>js (jln U22 (Bf.c_To d0) Z) (js (Gw Z Z (by omega)) (ja Z (jn (jx (jq (jq (jr (jm Z ?_))))))))))
 refine js (jco Gc U2 Z (FF (JE.wrap_wrap _ _))) (jm Z (js (Ar Z Z) (jn (jx ?_))))
 refine jif Z (fun hc5=>?_) (fun hc5=>?_)
 refine jq (jr (js (jf Ei Z) (js (jl k2 O22 Z Z) (jm Z (js (jix (i:=(Int.toNat (IntKind.u32.wrap (ix vs (Int.toNat (ix t.Args 0)))))) U22 Z3 (Bf.c_To d0) Z Z (by omega) (by omega)) (js (jlI (dix (Bf.c_To d0) (Int.toNat (IntKind.u32.wrap (ix vs (Int.toNat (ix t.Args 0))))) (by omega)) O3 Z) (ja Z (jn (jx (jrt (jtr ?_)))))))))))
 refine jbr (jtr ?_)
 have q1:As t (Aq vs)=ix t.To (Int.toNat (IntKind.u32.wrap (ix vs (Int.toNat (ix t.Args 0))))):=by first|(simp[As,Au,Bd,hw,hc1,hc2,hc4,hc5];done)|(unfold As;(repeat' split)<;>first|rfl|(exfalso;omega)|(simp_all;done))|(simp[As,hw,hc1,hc2,hc4,hc5];congr 1;omega)
 have q2:Au t 0=0:=by first|(simp[As,Au,Bd,hw,hc1,hc2,hc4,hc5];done)|(unfold Au;(repeat' split)<;>first|rfl|(exfalso;omega)|(simp_all;done))|(simp[As,hw,hc1,hc2,hc4,hc5];congr 1;omega)
 have q3:Bd t (Aq vs) x0=x0:=by first|(simp[As,Au,Bd,hw,hc1,hc2,hc4,hc5];done)|(unfold Bd;(repeat' split)<;>first|rfl|(exfalso;omega)|(simp_all;done))|(simp[As,hw,hc1,hc2,hc4,hc5];congr 1;omega)
 have q4:(!decide (Au t 0=0))=false:=by first|(simp[As,Au,Bd,hw,hc1,hc2,hc4,hc5];done)|(unfold Au;(repeat' split)<;>first|rfl|(exfalso;omega)|(simp_all;done))|(simp[As,hw,hc1,hc2,hc4,hc5];congr 1;omega)
 rw[q4,q1,q2,q3]
 exact jr1 Z Z () Z dn (fun _ _=>(kd kn))
 refine jsk (jx (jq (jr (js (jf Ei Z) (js (jl k2 O22 Z Z) (jm Z (js (jix (i:=(Int.toNat ((↑(List.length t.To))-1))) U22 Z3 (Bf.c_To d0) Z Z (by omega) (by omega)) (js (jlI (dix (Bf.c_To d0) (Int.toNat ((↑(List.length t.To))-1)) (by omega)) O3 Z) (ja Z (jn (jx ?_)))))))))))
 refine jrt (jbr (jtr ?_))
 have q1:As t (Aq vs)=ix t.To (Int.toNat ((((List.length t.To:Nat):Int))-1)):=by first|(simp[As,Au,Bd,hw,hc1,hc2,hc4,hc5];done)|(unfold As;(repeat' split)<;>first|rfl|(exfalso;omega)|(simp_all;done))|(simp[As,hw,hc1,hc2,hc4,hc5];congr 1;omega)
 have q2:Au t 0=0:=by first|(simp[As,Au,Bd,hw,hc1,hc2,hc4,hc5];done)|(unfold Au;(repeat' split)<;>first|rfl|(exfalso;omega)|(simp_all;done))|(simp[As,hw,hc1,hc2,hc4,hc5];congr 1;omega)
 have q3:Bd t (Aq vs) x0=x0:=by first|(simp[As,Au,Bd,hw,hc1,hc2,hc4,hc5];done)|(unfold Bd;(repeat' split)<;>first|rfl|(exfalso;omega)|(simp_all;done))|(simp[As,hw,hc1,hc2,hc4,hc5];congr 1;omega)
 have q4:(!decide (Au t 0=0))=false:=by first|(simp[As,Au,Bd,hw,hc1,hc2,hc4,hc5];done)|(unfold Au;(repeat' split)<;>first|rfl|(exfalso;omega)|(simp_all;done))|(simp[As,hw,hc1,hc2,hc4,hc5];congr 1;omega)
 rw[q4,q1,q2,q3]
 exact jr1 Z Z () Z dn (fun _ _=>(kd kn))
 refine jq (jr (js (Ao Z Z) (ja Z (jn (jx ?_)))))
 refine jif Z (fun hc6=>?_) (fun hc6=>?_)
 refine jq (jr (js (jf Jq Z) (js (jl k0 O22 Z Z) (jdq (Bf.c_Args d0) fun q6 w6=>js (jln U22 (Bf.c_Args d0) Z) (js (Ee Z Z) (jn (jx ?_)))))))
 refine jif Z (fun hc7=>?_) (fun hc7=>?_)
 have hw:=Vy (t:=t) (vs:=vs) (by omega) hav
 refine jr (jm Z (jm Z (js (jf Jq Z) (js (jl k0 O22 Z Z) (jc Lb Z Z (Kn 0 om oc oi oj oa (by omega) (hav _ (Ax (by first|omega|simp;done|decide)))) (dc (Bf.c_Args d0) dn) (kc k1 (kc k1 kn)) (fun _=>p0) (fun _=>p2) fun _=>jc Oi Z Z (Np _ _ w1.one om oc oi oj oa) dn (kc k0 kn) (fun _=>p0) (fun _=>p1) fun _=>jn (jbn (jx (jq (jr ?_)))))))))
 refine ja Z (jn (jx (jrt ?_)))
 have q1:As t (Aq vs)=0:=by first|(simp[As,Au,Bd,hw,hc1,hc2,hc4,hc6,hc7];done)|(unfold As;(repeat' split)<;>first|rfl|(exfalso;omega)|(simp_all;done))|(simp[As,hw,hc1,hc2,hc4,hc6,hc7];congr 1;omega)
 have q2:Au t 0=1:=by first|(simp[As,Au,Bd,hw,hc1,hc2,hc4,hc6,hc7];done)|(unfold Au;(repeat' split)<;>first|rfl|(exfalso;omega)|(simp_all;done))|(simp[As,hw,hc1,hc2,hc4,hc6,hc7];congr 1;omega)
 have q3:Bd t (Aq vs) x0=ix vs (Int.toNat (ix t.Args 0)):=by first|(simp[As,Au,Bd,hw,hc1,hc2,hc4,hc6,hc7];done)|(unfold Bd;(repeat' split)<;>first|rfl|(exfalso;omega)|(simp_all;done))|(simp[As,hw,hc1,hc2,hc4,hc6,hc7];congr 1;omega)
 have q4:(!decide (Au t 0=0))=true:=by first|(simp[As,Au,Bd,hw,hc1,hc2,hc4,hc6,hc7];done)|(unfold Au;(repeat' split)<;>first|rfl|(exfalso;omega)|(simp_all;done))|(simp[As,hw,hc1,hc2,hc4,hc6,hc7];congr 1;omega)
 rw[q4,q1,q2,q3]
 exact jr1 Z Z () Z dn (fun _ _=>(kd kn))
 have hwn:=EK (t:=t) (V:=Aq vs) (by omega)
 refine jr (jm Z (jc Oi Z Z (Np _ _ w1.one om oc oi oj oa) dn (kc k1 kn) (fun _=>p0) (fun _=>p1) fun _=>jn (jbn (jx (jq (jr (ja Z (jn (jx (jrt ?_))))))))))
 have q1:As t (Aq vs)=0:=by first|(simp[As,Au,Bd,hwn,hc1,hc2,hc4,hc6,hc7];done)|(unfold As;(repeat' split)<;>first|rfl|(exfalso;omega)|(simp_all;done))|(simp[As,hwn,hc1,hc2,hc4,hc6,hc7];congr 1;omega)
 have q2:Au t 0=1:=by first|(simp[As,Au,Bd,hwn,hc1,hc2,hc4,hc6,hc7];done)|(unfold Au;(repeat' split)<;>first|rfl|(exfalso;omega)|(simp_all;done))|(simp[As,hwn,hc1,hc2,hc4,hc6,hc7];congr 1;omega)
 have q3:Bd t (Aq vs) x0=0:=by first|(simp[As,Au,Bd,hwn,hc1,hc2,hc4,hc6,hc7];done)|(unfold Bd;(repeat' split)<;>first|rfl|(exfalso;omega)|(simp_all;done))|(simp[As,hwn,hc1,hc2,hc4,hc6,hc7];congr 1;omega)
 have q4:(!decide (Au t 0=0))=true:=by first|(simp[As,Au,Bd,hwn,hc1,hc2,hc4,hc6,hc7];done)|(unfold Au;(repeat' split)<;>first|rfl|(exfalso;omega)|(simp_all;done))|(simp[As,hwn,hc1,hc2,hc4,hc6,hc7];congr 1;omega)
 rw[q4,q1,q2,q3]
 exact jr1 Z Z () Z dn (fun _ _=>(kc k0 (kc k1 kn)))
 refine jr (jm Z (js (jf Zs Z) (js (jl k0 O21 Z Z) (jc Oi Z Z (Np _ _ w1.one om oc oi oj oa) dn (kc k1 kn) (fun _=>p0) (fun _=>p1) fun _=>jn (jbn (jx (jq (jr (ja Z (jn ?_))))))))))
 refine jx (jrt ?_)
 have q1:As t (Aq vs)=0:=by first|(simp[As,Au,Bd,hc1,hc2,hc4,hc6];done)|(unfold As;(repeat' split)<;>first|rfl|(exfalso;omega)|(simp_all;done))|(simp[As,hc1,hc2,hc4,hc6];congr 1;omega)
 have q2:Au t 0=2:=by first|(simp[As,Au,Bd,hc1,hc2,hc4,hc6];done)|(unfold Au;(repeat' split)<;>first|rfl|(exfalso;omega)|(simp_all;done))|(simp[As,hc1,hc2,hc4,hc6];congr 1;omega)
 have q3:Bd t (Aq vs) x0=t.Imm:=by first|(simp[As,Au,Bd,hc1,hc2,hc4,hc6];done)|(unfold Bd;(repeat' split)<;>first|rfl|(exfalso;omega)|(simp_all;done))|(simp[As,hc1,hc2,hc4,hc6];congr 1;omega)
 have q4:(!decide (Au t 0=0))=true:=by first|(simp[As,Au,Bd,hc1,hc2,hc4,hc6];done)|(unfold Au;(repeat' split)<;>first|rfl|(exfalso;omega)|(simp_all;done))|(simp[As,hc1,hc2,hc4,hc6];congr 1;omega)
 rw[q4,q1,q2,q3]
 exact jr1 Z Z () Z dn (fun _ _=>(kc k0 (kc k1 kn)))
end Go.Proofs.YtmfkkodnghambaaGreat
namespace Go.Proofs.YtmfkkodnghambaaGreat
open Go.JE
theorem VU:Ent Tryz.prog 107:=⟨_,Tryz.func107,by kernel_rfl,by kernel_rfl⟩
theorem VT:Ent Tryz.prog 109:=⟨_,Tryz.func109,by kernel_rfl,by kernel_rfl⟩
theorem VS:Ent Tryz.prog 110:=⟨_,Tryz.func110,by kernel_rfl,by kernel_rfl⟩
theorem VR:Ent Tryz.prog 111:=⟨_,Tryz.func111,by kernel_rfl,by kernel_rfl⟩
theorem Qh:Fld Tryz.prog 122 3 10:=⟨_,_,Tryz.underlying122,rfl,rfl,1,(by unfold Sz;kernel_rfl),by decide⟩
theorem IT{g0 Bv Bm Bc:Nat}{vv:Value}{vs:List Int}{mv cv ia im av:Value}{me an:List Int}{cl:List D.Event}{x0 st0 ss0:Int}{na:Nat}{a1:Value}{i:D.Ins}(oi:ia.oneCell'=true)(oj:im.oneCell'=true)(hO:(1≤i.Op∧i.Op≤18)∧(Cz i.Op).1≤(i.Args.length:Int)∧(i.Args.length:Int)≤(Cz i.Op).2)(hav:∀a∈i.Args,0≤a∧a<vs.length)(hmk:∀r∈Ba i,0≤r∧r<vs.length)(hml:me.length<1073741824)(hcl:cl.length<1000000000)(hna:na<1000000000):Tr Tryz.prog 57 #[.pointer (some ⟨g0,0,none⟩),vIns i a1] [dv (rL (rI .i32)) av an,da Am (vIns i a1) i] [bx g0 122 [vv,.int .i64 0,.int .i32 x0,mv,cv,.int .i64 st0,ia,im,av,.int .i64 ss0,.int .i64 (((na:Nat):Int)),.bool false],gl Bv (rI .i32) 21 vv vs,gl Bm (rI .i32) 21 mv me,gl Bc Dr 74 cv cl] (fun _:{ c:Value×List Int // De i vs me an na c.2 } => .tuple #[]) (fun c=>[dv (rL (rI .i32)) av an]) (fun _ c=>[bx g0 122 [vv,.int .i64 (Ab i (Aq vs) me 0),.int .i32 (Ac i (Aq vs) me x0),mv,c.1.1,.int .i64 st0,ia,im,av,.int .i64 ss0,.int .i64 (((nA i na:Nat):Int)),.bool (!decide (Ae i (Aq vs) me=0))],gl Bv (rI .i32) 21 vv c.1.2,gl Bm (rI .i32) 21 mv (Ai i (Aq vs) me),gl Bc Dr 74 c.1.1 (Ah i (Aq vs) cl)]):=by
 refine Az (args:=[.pointer (some ⟨g0,0,none⟩),vIns i a1]) Tryz.func57 rfl rfl rfl fun w0 X=>?_
 refine cgo k1 fun w1=>cgo k2 fun w2=>cgo k3 fun w3=>?_
 obtain⟨ho15,ho2,hol⟩:=R9 hO
 refine jq (jr (Cm Z Z fun g3=>jn (jx (jq (jr (js (jf Ke Z) (js (jl k0 O3 Z Z) (jn (jx (jb ?_))))))))))
 refine jq (jr (js (Ao Z Z) (ja Z (jn (jx ?_)))))
 refine jif Z (fun hc1=>?_) (fun hc1=>?_)
 have hd9:=hmk i.Dst (by unfold Ba;rw[if_neg (by omega),if_neg (by omega)];simp)
 refine Bz false (.a 0 (.a 1 (.a 2 (.a 3 (.a 4 (.a 5 (.a 6 (.a 7 (.o 8 (.o 9 .e)))))))))) Bi (by kernel_rfl) (kd kn) fun F4=>jy Z (jmv Z) (jy Z (Ak Z) (jy Z (jf La Z) (jy Z (jl k1 O29 Z Z) (jy Z (jf Gn Z) (jy Z (jl k0 O3 Z Z) (jy Z (jf Nb Z) (jy Z (jl k0 O21 Z Z) (jyo Z (js (jig (i:=(Int.toNat i.Dst)) U29 Z21 k2 Z Z (by omega) (by omega)) (jyn d0 (kd kn) ?_))))))))))
 refine jyo Z (jsg k2 Z Z21 Z Z Z (by omega) (wI (Am.W_Imm d3)) (jyn d0 (kc k1 (kc k1 kn)) (jyd (jbn ?_))))
 have q1:Ab i (Aq vs) me 0=0:=by first|(simp[Ag,Ab,Ac,Ai,Ah,Ae,nA,w32,hc1];done)|(simp[Ag,Ab,Ac,Ai,Ah,Ae,nA,w32,hc1];split<;>simp_all;done)|(simp_all[Ag,Ab,Ac,Ai,Ah,Ae,nA,w32];done)|(unfold Ab Ac Ae;simp_all[w32];done)
 have q2:Ac i (Aq vs) me x0=x0:=by first|(simp[Ag,Ab,Ac,Ai,Ah,Ae,nA,w32,hc1];done)|(simp[Ag,Ab,Ac,Ai,Ah,Ae,nA,w32,hc1];split<;>simp_all;done)|(simp_all[Ag,Ab,Ac,Ai,Ah,Ae,nA,w32];done)|(unfold Ab Ac Ae;simp_all[w32];done)
 have q3:Ai i (Aq vs) me=me:=by first|(simp[Ag,Ab,Ac,Ai,Ah,Ae,nA,w32,hc1];done)|(simp[Ag,Ab,Ac,Ai,Ah,Ae,nA,w32,hc1];split<;>simp_all;done)|(simp_all[Ag,Ab,Ac,Ai,Ah,Ae,nA,w32];done)|(unfold Ab Ac Ae;simp_all[w32];done)
 have q4:Ah i (Aq vs) cl=cl:=by first|(simp[Ag,Ab,Ac,Ai,Ah,Ae,nA,w32,hc1];done)|(simp[Ag,Ab,Ac,Ai,Ah,Ae,nA,w32,hc1];split<;>simp_all;done)|(simp_all[Ag,Ab,Ac,Ai,Ah,Ae,nA,w32];done)|(unfold Ab Ac Ae;simp_all[w32];done)
 have q5:((nA i na:Nat):Int)=((na:Nat):Int):=by first|(simp[Ag,Ab,Ac,Ai,Ah,Ae,nA,w32,hc1];done)|(simp[Ag,Ab,Ac,Ai,Ah,Ae,nA,w32,hc1];split<;>simp_all;done)|(simp_all[Ag,Ab,Ac,Ai,Ah,Ae,nA,w32];done)|(unfold Ab Ac Ae;simp_all[w32];done)
 have q6:(!decide (Ae i (Aq vs) me=0))=false:=by first|(simp[Ag,Ab,Ac,Ai,Ah,Ae,nA,w32,hc1];done)|(simp[Ag,Ab,Ac,Ai,Ah,Ae,nA,w32,hc1];split<;>simp_all;done)|(simp_all[Ag,Ab,Ac,Ai,Ah,Ae,nA,w32];done)|(unfold Ab Ac Ae;simp_all[w32];done)
 have hP:De i vs me an na (List.set vs (Int.toNat i.Dst) i.Imm):=De.one hd9 (by first|(simp[Ag,w32,Io,Jm,hc1];done)|(simp[Ag,w32,Io,Jm,hc1];split<;>simp_all;done)|(simp_all[Ag,w32,Io,Jm];done))
 rw[q6,q1,q2,q3,q4,q5]
 exact jd0 Z (⟨(cv,List.set vs (Int.toNat i.Dst) i.Imm),hP⟩:{ c:Value×List Int // De i vs me an na c.2 }) Z (dc d2 dn) (fun _ _=>(kc k2 (kc k0 (kc k1 (kc k1 kn)))))
 refine jq (jr (js (Ao Z Z) (ja Z (jn (jx ?_)))))
 refine jif Z (fun hc2=>?_) (fun hc2=>?_)
 have ho15:=ho15 hc2
 have hb0:=Ob (i:=i) (vs:=vs) (k:=0) hav (by omega)
 have hr0:=hav _ (Ax (l:=i.Args) (i:=0) (by omega))
 have hd9:=hmk i.Dst (by unfold Ba;rw[if_neg (by omega),if_neg (by omega)];simp)
 refine jq (Bz false (.a 0 (.a 1 (.a 2 (.a 3 (.a 4 (.a 5 (.a 6 (.a 7 (.a 9 (.a 10 (.o 8 (.a 11 (.o 12 (.a 13 (.a 14 (.a 15 (.a 16 (.a 17 .e)))))))))))))))))) Bi (by kernel_rfl) (kd kn) fun F7=>jy Z (jmv Z) (jy Z (Ak Z) (jy Z (jf Kg Z) (jy Z (jf Nc Z) (jy Z (jl k1 O29 Z Z) (jy Z (jmv Z) (jy Z (jf Hi Z) (jy Z (jl k0 O22 Z Z) (jy Z (jf Nb Z) (jy Z (jl k0 O21 Z Z) ?_))))))))))
 refine jyo Z (jdq d1 fun q9 w9=>jc Lb Z Z (Kn 0 w2.one w3.one oi oj w9.one (by omega) (hav _ (Ax (by first|omega|simp;done|decide)))) (dc (Am.c_Args d2) dn) (kc k1 (kc k1 kn)) (fun _=>p0) (fun _=>p2) fun _=>jyn d0 (kc k2 (kc k0 kn)) (jy Z (Nx Z Z) (jyo Z (jc VU Z Z (Tv.temp 1073741824 (IJ (IntKind.i32.wrap ((ix vs (Int.toNat (ix i.Args 0)))+i.Imm)) (JE.wrap_wrap _ _)) (by omega)) dn (kc k3 kn) (fun _=>p0) (fun _=>p1) fun _=>jyn d0 (kc k3 (kc k1 kn)) (jy Z (jmv Z) (jy Z (Bs Z Z) (jy Z (Bs Z Z) (jy Z (jas Z) ?_))))))))
 refine jy Z (jas Z) (jyd (jx (jq (jq (jr (jm Z (js (Dq Z) (jn (jx ?_)))))))))
 refine jif Z (fun hc3=>?_) (fun hc3=>?_)
 refine jq (jr (jm Z (jc Oi Z Z (Np _ _ w1.one w2.one w3.one oi oj w9.one) dn (kc k1 kn) (fun _=>p0) (fun _=>p1) fun _=>jn (jx (jrt (jtr (jbr ?_)))))))
 have q1:Ab i (Aq vs) me 0=2:=by first|(simp[Ag,Ab,Ac,Ai,Ah,Ae,nA,w32,hb0,hb1,hc1,hc2,hc3];done)|(simp[Ag,Ab,Ac,Ai,Ah,Ae,nA,w32,hb0,hb1,hc1,hc2,hc3];split<;>simp_all;done)|(simp_all[Ag,Ab,Ac,Ai,Ah,Ae,nA,w32];done)|(unfold Ab Ac Ae;simp_all[w32];done)
 have q2:Ac i (Aq vs) me x0=(-2):=by first|(simp[Ag,Ab,Ac,Ai,Ah,Ae,nA,w32,hb0,hb1,hc1,hc2,hc3];done)|(simp[Ag,Ab,Ac,Ai,Ah,Ae,nA,w32,hb0,hb1,hc1,hc2,hc3];split<;>simp_all;done)|(simp_all[Ag,Ab,Ac,Ai,Ah,Ae,nA,w32];done)|(unfold Ab Ac Ae;simp_all[w32];done)
 have q3:Ai i (Aq vs) me=me:=by first|(simp[Ag,Ab,Ac,Ai,Ah,Ae,nA,w32,hb0,hb1,hc1,hc2,hc3];done)|(simp[Ag,Ab,Ac,Ai,Ah,Ae,nA,w32,hb0,hb1,hc1,hc2,hc3];split<;>simp_all;done)|(simp_all[Ag,Ab,Ac,Ai,Ah,Ae,nA,w32];done)|(unfold Ab Ac Ae;simp_all[w32];done)
 have q4:Ah i (Aq vs) cl=cl:=by first|(simp[Ag,Ab,Ac,Ai,Ah,Ae,nA,w32,hb0,hb1,hc1,hc2,hc3];done)|(simp[Ag,Ab,Ac,Ai,Ah,Ae,nA,w32,hb0,hb1,hc1,hc2,hc3];split<;>simp_all;done)|(simp_all[Ag,Ab,Ac,Ai,Ah,Ae,nA,w32];done)|(unfold Ab Ac Ae;simp_all[w32];done)
 have q5:((nA i na:Nat):Int)=((na:Nat):Int):=by first|(simp[Ag,Ab,Ac,Ai,Ah,Ae,nA,w32,hb0,hb1,hc1,hc2,hc3];done)|(simp[Ag,Ab,Ac,Ai,Ah,Ae,nA,w32,hb0,hb1,hc1,hc2,hc3];split<;>simp_all;done)|(simp_all[Ag,Ab,Ac,Ai,Ah,Ae,nA,w32];done)|(unfold Ab Ac Ae;simp_all[w32];done)
 have q6:(!decide (Ae i (Aq vs) me=0))=true:=by first|(simp[Ag,Ab,Ac,Ai,Ah,Ae,nA,w32,hb0,hb1,hc1,hc2,hc3];done)|(simp[Ag,Ab,Ac,Ai,Ah,Ae,nA,w32,hb0,hb1,hc1,hc2,hc3];split<;>simp_all;done)|(simp_all[Ag,Ab,Ac,Ai,Ah,Ae,nA,w32];done)|(unfold Ab Ac Ae;simp_all[w32];done)
 have hP:De i vs me an na (vs):=De.trap (by first|(simp[Ag,Ab,Ac,Ai,Ah,Ae,nA,w32,hb0,hb1,hc1,hc2,hc3];done)|(simp_all[Ag,Ab,Ac,Ai,Ah,Ae,nA,w32];done))
 rw[q6,q1,q2,q3,q4,q5]
 exact jr0 Z (⟨(cv,vs),hP⟩:{ c:Value×List Int // De i vs me an na c.2 }) Z (dc d2 dn) (fun _ _=>(kc k0 (kc k1 (kc k0 (kc k1 kn)))))
 refine jsk (jx (Bz false (.a 0 (.a 1 (.a 2 (.a 3 (.a 4 (.a 5 (.a 6 (.o 7 (.o 8 .e))))))))) Bi (by kernel_rfl) (kc k1 (kc k2 kn)) fun F11=>jy Z (jmv Z) (jy Z (Ak Z) (jy Z (jf La Z) (jy Z (jl k0 O29 Z Z) (jy Z (jf Gn Z) (jy Z (jl k1 O3 Z Z) (jy Z (jmv Z) (jyo Z (js (jig (i:=(Int.toNat i.Dst)) U29 Z21 k2 Z Z (by omega) (by omega)) ?_))))))))))
 refine jyn d0 (kc k1 (kc k2 kn)) (jyo Z (jsg k2 Z Z21 Z Z Z (by omega) (wI (wld k0 (IntKind.i32.wrap ((ix vs (Int.toNat (ix i.Args 0)))+i.Imm)))) (jyn d0 (kc k2 (kc k2 kn)) (jyd (jbn ?_)))))
 have q1:Ab i (Aq vs) me 0=0:=by first|(simp[Ag,Ab,Ac,Ai,Ah,Ae,nA,w32,hb0,hb1,hc1,hc2,hc3];done)|(simp[Ag,Ab,Ac,Ai,Ah,Ae,nA,w32,hb0,hb1,hc1,hc2,hc3];split<;>simp_all;done)|(simp_all[Ag,Ab,Ac,Ai,Ah,Ae,nA,w32];done)|(unfold Ab Ac Ae;simp_all[w32];done)
 have q2:Ac i (Aq vs) me x0=x0:=by first|(simp[Ag,Ab,Ac,Ai,Ah,Ae,nA,w32,hb0,hb1,hc1,hc2,hc3];done)|(simp[Ag,Ab,Ac,Ai,Ah,Ae,nA,w32,hb0,hb1,hc1,hc2,hc3];split<;>simp_all;done)|(simp_all[Ag,Ab,Ac,Ai,Ah,Ae,nA,w32];done)|(unfold Ab Ac Ae;simp_all[w32];done)
 have q3:Ai i (Aq vs) me=me:=by first|(simp[Ag,Ab,Ac,Ai,Ah,Ae,nA,w32,hb0,hb1,hc1,hc2,hc3];done)|(simp[Ag,Ab,Ac,Ai,Ah,Ae,nA,w32,hb0,hb1,hc1,hc2,hc3];split<;>simp_all;done)|(simp_all[Ag,Ab,Ac,Ai,Ah,Ae,nA,w32];done)|(unfold Ab Ac Ae;simp_all[w32];done)
 have q4:Ah i (Aq vs) cl=cl:=by first|(simp[Ag,Ab,Ac,Ai,Ah,Ae,nA,w32,hb0,hb1,hc1,hc2,hc3];done)|(simp[Ag,Ab,Ac,Ai,Ah,Ae,nA,w32,hb0,hb1,hc1,hc2,hc3];split<;>simp_all;done)|(simp_all[Ag,Ab,Ac,Ai,Ah,Ae,nA,w32];done)|(unfold Ab Ac Ae;simp_all[w32];done)
 have q5:((nA i na:Nat):Int)=((na:Nat):Int):=by first|(simp[Ag,Ab,Ac,Ai,Ah,Ae,nA,w32,hb0,hb1,hc1,hc2,hc3];done)|(simp[Ag,Ab,Ac,Ai,Ah,Ae,nA,w32,hb0,hb1,hc1,hc2,hc3];split<;>simp_all;done)|(simp_all[Ag,Ab,Ac,Ai,Ah,Ae,nA,w32];done)|(unfold Ab Ac Ae;simp_all[w32];done)
 have q6:(!decide (Ae i (Aq vs) me=0))=false:=by first|(simp[Ag,Ab,Ac,Ai,Ah,Ae,nA,w32,hb0,hb1,hc1,hc2,hc3];done)|(simp[Ag,Ab,Ac,Ai,Ah,Ae,nA,w32,hb0,hb1,hc1,hc2,hc3];split<;>simp_all;done)|(simp_all[Ag,Ab,Ac,Ai,Ah,Ae,nA,w32];done)|(unfold Ab Ac Ae;simp_all[w32];done)
 have hP:De i vs me an na (List.set vs (Int.toNat i.Dst) ((Ce me (IntKind.i32.wrap ((ix vs (Int.toNat (ix i.Args 0)))+i.Imm))).1)):=De.one hd9 (by first|(simp[Ag,w32,Io,Jm,hb0,hb1,hc1,hc2,hc3];done)|(simp[Ag,w32,Io,Jm,hb0,hb1,hc1,hc2,hc3];split<;>simp_all;done)|(simp_all[Ag,w32,Io,Jm];done))
 rw[q6,q1,q2,q3,q4,q5]
 exact jd0 Z (⟨(cv,List.set vs (Int.toNat i.Dst) ((Ce me (IntKind.i32.wrap ((ix vs (Int.toNat (ix i.Args 0)))+i.Imm))).1)),hP⟩:{ c:Value×List Int // De i vs me an na c.2 }) Z (dc d4 dn) (fun _ _=>(kc k2 (kd (kc k1 kn))))
 refine jq (jr (js (Ao Z Z) (ja Z (jn (jx ?_)))))
 refine jif Z (fun hc4=>?_) (fun hc4=>?_)
 have ho2:=ho2 (by omega) (by omega) (by omega)
 have hb0:=Ob (i:=i) (vs:=vs) (k:=0) hav (by omega)
 have hr0:=hav _ (Ax (l:=i.Args) (i:=0) (by omega))
 have hb1:=Ob (i:=i) (vs:=vs) (k:=1) hav (by omega)
 have hr1:=hav _ (Ax (l:=i.Args) (i:=1) (by omega))
 refine jq (Bz false (.a 0 (.a 1 (.a 2 (.a 3 (.a 4 (.a 5 (.a 6 (.a 7 (.a 9 (.a 10 (.a 12 (.a 13 (.a 14 (.o 8 (.a 11 (.o 15 (.o 16 (.a 17 .e)))))))))))))))))) Bi (by kernel_rfl) (kd kn) fun F14=>jy Z (jmv Z) (jy Z (Ak Z) (jy Z (jf Kg Z) (jy Z (jf Nc Z) (jy Z (jl k1 O29 Z Z) (jy Z (jmv Z) (jy Z (jf Hi Z) (jy Z (jl k0 O22 Z Z) (jy Z (jf Nb Z) (jy Z (jl k0 O21 Z Z) ?_))))))))))
 refine jy Z (jmv Z) (jy Z (jf Hi Z) (jy Z (jl k0 O22 Z Z) (jyo Z (jdq d1 fun q16 w16=>jc Lb Z Z (Kn 0 w2.one w3.one oi oj w16.one (by omega) (hav _ (Ax (by first|omega|simp;done|decide)))) (dc (Am.c_Args d2) dn) (kc k1 (kc k1 kn)) (fun _=>p0) (fun _=>p2) fun _=>jyn d0 (kc k2 (kc k0 kn)) (jy Z (Nx Z Z) (jyo Z (jc Lb Z Z (Kn 1 w2.one w3.one oi oj w16.one (by omega) (hav _ (Ax (by first|omega|simp;done|decide)))) (dc (Am.c_Args d3) dn) (kd kn) (fun _=>p0) (fun _=>p2) fun _=>jyn d0 (kc k2 (kc k0 kn)) (jyo Z ?_))))))))
 refine jwr (wgl (i:=(Int.toNat (ix i.Args 1))) k1 (by omega)) fun w19=>jc VT Z Z (IE (IntKind.i32.wrap ((ix vs (Int.toNat (ix i.Args 0)))+i.Imm)) (ix vs (Int.toNat (ix i.Args 1))) (by omega) (JE.wrap_wrap _ _) w19) dn (kc k3 kn) (fun _=>p0) (fun _=>p1) fun _=>jyn d0 (kc k3 (kc k1 kn)) (jy Z (jas Z) (jyd (jx (jq (jr (jm Z (js (Dq Z) (jn (jx ?_)))))))))
 refine jif Z (fun hc5=>?_) (fun hc5=>?_)
 refine jr (jm Z (jc Oi Z Z (Np _ _ w1.one w2.one w3.one oi oj w16.one) dn (kc k1 kn) (fun _=>p0) (fun _=>p1) fun _=>jn (jbn ?_)))
 have q1:Ab i (Aq vs) me 0=2:=by first|(simp[Ag,Ab,Ac,Ai,Ah,Ae,nA,w32,hb0,hb1,hc1,hc2,hc4,hc5];done)|(simp[Ag,Ab,Ac,Ai,Ah,Ae,nA,w32,hb0,hb1,hc1,hc2,hc4,hc5];split<;>simp_all;done)|(simp_all[Ag,Ab,Ac,Ai,Ah,Ae,nA,w32];done)|(unfold Ab Ac Ae;simp_all[w32];done)
 have q2:Ac i (Aq vs) me x0=(-2):=by first|(simp[Ag,Ab,Ac,Ai,Ah,Ae,nA,w32,hb0,hb1,hc1,hc2,hc4,hc5];done)|(simp[Ag,Ab,Ac,Ai,Ah,Ae,nA,w32,hb0,hb1,hc1,hc2,hc4,hc5];split<;>simp_all;done)|(simp_all[Ag,Ab,Ac,Ai,Ah,Ae,nA,w32];done)|(unfold Ab Ac Ae;simp_all[w32];done)
 have q3:Ai i (Aq vs) me=Fv me (IntKind.i32.wrap ((ix vs (Int.toNat (ix i.Args 0)))+i.Imm)) (ix vs (Int.toNat (ix i.Args 1))):=by first|(simp[Ag,Ab,Ac,Ai,Ah,Ae,nA,w32,hb0,hb1,hc1,hc2,hc4,hc5];done)|(simp[Ag,Ab,Ac,Ai,Ah,Ae,nA,w32,hb0,hb1,hc1,hc2,hc4,hc5];split<;>simp_all;done)|(simp_all[Ag,Ab,Ac,Ai,Ah,Ae,nA,w32];done)|(unfold Ab Ac Ae;simp_all[w32];done)
 have q4:Ah i (Aq vs) cl=cl:=by first|(simp[Ag,Ab,Ac,Ai,Ah,Ae,nA,w32,hb0,hb1,hc1,hc2,hc4,hc5];done)|(simp[Ag,Ab,Ac,Ai,Ah,Ae,nA,w32,hb0,hb1,hc1,hc2,hc4,hc5];split<;>simp_all;done)|(simp_all[Ag,Ab,Ac,Ai,Ah,Ae,nA,w32];done)|(unfold Ab Ac Ae;simp_all[w32];done)
 have q5:((nA i na:Nat):Int)=((na:Nat):Int):=by first|(simp[Ag,Ab,Ac,Ai,Ah,Ae,nA,w32,hb0,hb1,hc1,hc2,hc4,hc5];done)|(simp[Ag,Ab,Ac,Ai,Ah,Ae,nA,w32,hb0,hb1,hc1,hc2,hc4,hc5];split<;>simp_all;done)|(simp_all[Ag,Ab,Ac,Ai,Ah,Ae,nA,w32];done)|(unfold Ab Ac Ae;simp_all[w32];done)
 have q6:(!decide (Ae i (Aq vs) me=0))=true:=by first|(simp[Ag,Ab,Ac,Ai,Ah,Ae,nA,w32,hb0,hb1,hc1,hc2,hc4,hc5];done)|(simp[Ag,Ab,Ac,Ai,Ah,Ae,nA,w32,hb0,hb1,hc1,hc2,hc4,hc5];split<;>simp_all;done)|(simp_all[Ag,Ab,Ac,Ai,Ah,Ae,nA,w32];done)|(unfold Ab Ac Ae;simp_all[w32];done)
 have hP:De i vs me an na (vs):=De.trap (by first|(simp[Ag,Ab,Ac,Ai,Ah,Ae,nA,w32,hb0,hb1,hc1,hc2,hc4,hc5];done)|(simp_all[Ag,Ab,Ac,Ai,Ah,Ae,nA,w32];done))
 rw[q6,q1,q2,q3,q4,q5]
 exact jd0 Z (⟨(cv,vs),hP⟩:{ c:Value×List Int // De i vs me an na c.2 }) Z (dc d3 dn) (fun _ _=>(kc k0 (kc k1 (kc k0 (kc k1 kn)))))
 refine jsk (jbn ?_)
 have q1:Ab i (Aq vs) me 0=0:=by first|(simp[Ag,Ab,Ac,Ai,Ah,Ae,nA,w32,hb0,hb1,hc1,hc2,hc4,hc5];done)|(simp[Ag,Ab,Ac,Ai,Ah,Ae,nA,w32,hb0,hb1,hc1,hc2,hc4,hc5];split<;>simp_all;done)|(simp_all[Ag,Ab,Ac,Ai,Ah,Ae,nA,w32];done)|(unfold Ab Ac Ae;simp_all[w32];done)
 have q2:Ac i (Aq vs) me x0=x0:=by first|(simp[Ag,Ab,Ac,Ai,Ah,Ae,nA,w32,hb0,hb1,hc1,hc2,hc4,hc5];done)|(simp[Ag,Ab,Ac,Ai,Ah,Ae,nA,w32,hb0,hb1,hc1,hc2,hc4,hc5];split<;>simp_all;done)|(simp_all[Ag,Ab,Ac,Ai,Ah,Ae,nA,w32];done)|(unfold Ab Ac Ae;simp_all[w32];done)
 have q3:Ai i (Aq vs) me=Fv me (IntKind.i32.wrap ((ix vs (Int.toNat (ix i.Args 0)))+i.Imm)) (ix vs (Int.toNat (ix i.Args 1))):=by first|(simp[Ag,Ab,Ac,Ai,Ah,Ae,nA,w32,hb0,hb1,hc1,hc2,hc4,hc5];done)|(simp[Ag,Ab,Ac,Ai,Ah,Ae,nA,w32,hb0,hb1,hc1,hc2,hc4,hc5];split<;>simp_all;done)|(simp_all[Ag,Ab,Ac,Ai,Ah,Ae,nA,w32];done)|(unfold Ab Ac Ae;simp_all[w32];done)
 have q4:Ah i (Aq vs) cl=cl:=by first|(simp[Ag,Ab,Ac,Ai,Ah,Ae,nA,w32,hb0,hb1,hc1,hc2,hc4,hc5];done)|(simp[Ag,Ab,Ac,Ai,Ah,Ae,nA,w32,hb0,hb1,hc1,hc2,hc4,hc5];split<;>simp_all;done)|(simp_all[Ag,Ab,Ac,Ai,Ah,Ae,nA,w32];done)|(unfold Ab Ac Ae;simp_all[w32];done)
 have q5:((nA i na:Nat):Int)=((na:Nat):Int):=by first|(simp[Ag,Ab,Ac,Ai,Ah,Ae,nA,w32,hb0,hb1,hc1,hc2,hc4,hc5];done)|(simp[Ag,Ab,Ac,Ai,Ah,Ae,nA,w32,hb0,hb1,hc1,hc2,hc4,hc5];split<;>simp_all;done)|(simp_all[Ag,Ab,Ac,Ai,Ah,Ae,nA,w32];done)|(unfold Ab Ac Ae;simp_all[w32];done)
 have q6:(!decide (Ae i (Aq vs) me=0))=false:=by first|(simp[Ag,Ab,Ac,Ai,Ah,Ae,nA,w32,hb0,hb1,hc1,hc2,hc4,hc5];done)|(simp[Ag,Ab,Ac,Ai,Ah,Ae,nA,w32,hb0,hb1,hc1,hc2,hc4,hc5];split<;>simp_all;done)|(simp_all[Ag,Ab,Ac,Ai,Ah,Ae,nA,w32];done)|(unfold Ab Ac Ae;simp_all[w32];done)
 have hP:De i vs me an na (vs):=De.no (by simp[Ag,hb0,hb1,hc1,hc2,hc4,hc5])
 rw[q6,q1,q2,q3,q4,q5]
 exact jd0 Z (⟨(cv,vs),hP⟩:{ c:Value×List Int // De i vs me an na c.2 }) Z (dc d3 dn) (fun _ _=>(kc k1 (kc k1 (kc k0 (kc k1 kn)))))
 refine jq (jr (js (Ao Z Z) (ja Z (jn (jx ?_)))))
 refine jif Z (fun hc6=>?_) (fun hc6=>?_)
 have hd9:=hmk i.Dst (by unfold Ba;rw[if_neg (by omega),if_neg (by omega)];simp)
 refine jq (jr (js (jf Nb Z) (js (jl k0 O21 Z Z) (js (jbu (v := .agg #[.int .i32 i.Imm,.slice none 0 0]) Z (fun _=>by kernel_rfl)) (Bo J74 Z fun g7=>Bk k0 Z74 Z Z Z ⟨Z,Z,trivial⟩ (saf Z) (jn (jx (jq (jq (jr ?_))))))))))
 refine ja Z (jn (jx (jb (cnl (r:=(rI .i32)) (E:=21) ?_))))
 refine jlp (u3 fun(j:Nat) (ea:List Int) (ve:Value)=>⟨j≤i.Args.length∧ea=(i.Args.take j).map (fun r=>ix vs r.toNat),[dv (rL (rI .i32)) av an,da Am (vIns i a1) i],[gl X.n (rI .i32) 21 ve ea,bx g7 74 [.int .i32 i.Imm,ve],bx g3 67 [.int .i64 i.Op,.int .i64 i.Dst,.int .i64 i.Two,a1,.int .i32 i.Imm],bx g0 122 [vv,.int .i64 0,.int .i32 x0,mv,cv,.int .i64 st0,ia,im,av,.int .i64 ss0,.int .i64 (↑na),.bool false],gl Bv (rI .i32) 21 vv vs,gl Bm (rI .i32) 21 mv me,gl Bc Dr 74 cv cl],[(0,.pointer (some ⟨g0,0,none⟩)),(3,.pointer (some ⟨g3,0,none⟩)),(7,.pointer (some ⟨g7,0,none⟩)),(8,.int .i64 (↑j))],i.Args.length-j⟩) (0,[],.slice none 0 0) ⟨by dsimp only;omega,rfl⟩ (dc d0 (dc d1 dn)) (kd (kd (kd (kc k0 kn)))) ⟨Z,Z,Z,eqI (by omega),trivial⟩ ?_
 rintro⟨j,ea,ve⟩;dsimp only[u3];rintro⟨hj,hea⟩
 refine cgo k0 fun w20=>?_
 have hel:ea.length=j:=by rw[hea];simp;omega
 refine jq (jq (jr (jm Z (js (jf Hi Z) (js (jl k2 O22 Z Z) (jdq (Am.c_Args d1) fun q21 w21=>js (jln U22 (Am.c_Args d1) Z) (js (Ar Z Z) (jn (jx ?_)))))))))
 refine jif Z (fun hc7=>?_) (fun hc7=>?_)
 have hrj:=hav _ (Ax (l:=i.Args) (i:=j) (by omega))
 refine jsk (jx (jq (jb (Bz true (.a 0 (.a 1 (.a 2 (.a 3 (.a 4 (.a 5 (.o 6 (.o 7 (.o 8 (.a 9 (.o 10 .e))))))))))) Bi (by kernel_rfl) (kc k1 (kc k1 kn)) fun F22=>jy Z (jf Vl Z) (jy Z (jl k0 O29 Z Z) (jy Z (jmv Z) (jy Z (jf Hi Z) (jy Z (jl k1 O22 Z Z) (jy Z (jmv Z) (jyo Z ?_))))))))))
 refine jdq d1 fun q24 w24=>jc Lb Z Z (Kn j w2.one w3.one oi oj w24.one (by omega) (hav _ (Ax (by first|omega|simp;done|decide)))) (dc (Am.c_Args d2) dn) (kc k3 (kc k3 kn)) (fun _=>p0) (fun _=>p2) fun _=>jyn d0 (kc k3 (kc k3 kn)) (jyo Z (Bg (r:=(rI .i32)) (l:=[ix vs (Int.toNat (ix i.Args j))]) U29 I21 (by decide) Z Z Z (lV Z Z (wI (wgl k1 (by omega))) ln) fun g124=>jyn d0 (kc k4 (kc k4 kn)) (jyo Z (jfz k0 (by(try simp)<;>omega) (Dl U29 I21 (by decide) Z k2 Z Z d0 (by(try simp)<;>omega) fun v125 w28=>jyn d1 (kc k3 (kc k3 kn)) (jy Z (jf Vl Z) (jyo Z ?_)))))))
 refine jst k3 Z29 Z Z w28.one s1 (jyz d0 (jyd (jbn (jx (jr (jm Z (js (Al Z Z (by omega)) (ja Z (jn ?_)))))))))
 exact jag (j+1,ea++([ix vs (Int.toNat (ix i.Args j))]),v125) ⟨by dsimp only;omega,by dsimp only;rw[hea,Ej (l:=i.Args) (by omega),List.map_append];rfl⟩ (dc d5 (dc d6 dn)) (kc k1 (kc k0 (kc k2 (kd (kd kn))))) ⟨Z,Z,Z,eqI (by omega),trivial⟩
 refine jex (jtx (jtx (jbh (jx (jq (Bz true (.a 0 (.a 1 (.a 2 (.a 3 (.a 4 (.a 5 (.a 6 (.o 7 (.o 8 (.a 9 (.a 10 (.a 11 (.o 12 .e))))))))))))) Bi (by kernel_rfl) (kc k1 (kc k2 kn)) fun F30=>jy Z (jmv Z) (jy Z (jmv Z) (jy Z (Ak Z) (jy Z (jf Kg Z) (jy Z (jf Kf Z) ?_))))))))))
 refine jy Z (jl k1 O35 Z Z) (jy Z (jla k0 A74 Z74 Z Z Z) (jyo Z (jfz k0 (by omega) (Bg (r:=Dr) (l:=[⟨i.Imm,ea⟩]) U35 I74 (by decide) Z Z Z (lA (Dr.M (m:=⟨i.Imm,ea⟩) (c:=ve) d0 (Am.W_Imm d3)) ln) fun g134=>jyn d1 (kc k1 (kc k2 kn)) (jyo Z (jfz k0 (by(try simp)<;>omega) (Dl U35 I74 (by decide) Z k5 Z Z d0 (by(try simp)<;>omega) fun v135 w35=>jyn d1 (kc k1 (kc k2 kn)) (jy Z (Ak Z) (jy Z (jf Kg Z) ?_)))))))))
 refine jy Z (jf Kf Z) (jyo Z (jst k3 Z35 Z Z w35.one s4 (jyz d0 (jyd (jx (jq (Bz false (.a 0 (.a 1 (.a 2 (.a 3 (.a 4 (.a 5 (.o 6 (.o 7 .e)))))))) Bi (by kernel_rfl) (kc k0 (kc k2 kn)) fun F37=>jy Z (jmv Z) (jy Z (Ak Z) (jy Z (jf La Z) (jy Z (jl k0 O29 Z Z) ?_))))))))))
 refine jy Z (jf Gn Z) (jy Z (jl k1 O3 Z Z) (jyo Z (js (jig (i:=(Int.toNat i.Dst)) U29 Z21 k4 Z Z (by omega) (by omega)) (jyn d0 (kc k0 (kc k2 kn)) (jyo Z (jsg k4 Z Z21 Z Z Z (by omega) (wI (wl 0)) (jyn d0 (kc k1 (kc k3 kn)) (jyd (jx (jq (jq ?_)))))))))))
 refine Gh Bi (by kernel_rfl) (jt (jmv Z) (jt (Ak Z) (jt (jf Qh Z) (jt (jl k1 O3 Z Z) (jt (jmv Z) (jt (Ak Z) (jt (jf Zw Z) (jt (jf Sa Z) (jt (jl k1 O29 Z Z) (tdq d7 fun q40 w40=>jt (jln U29 d7 Z) ?_))))))))))
 refine jt (Ar Z Z) (jdn (jx ?_))
 refine jif Z (fun hc8=>?_) (fun hc8=>?_)
 refine Bz false (.a 0 (.a 1 (.a 2 (.a 3 (.a 4 (.a 5 (.a 6 (.a 7 (.a 8 (.a 9 (.a 10 (.a 11 (.a 12 (.a 13 (.a 14 (.a 15 (.a 16 (.o 17 (.o 18 .e))))))))))))))))))) Bi (by kernel_rfl) (kc k1 (kc k3 kn)) fun F41=>jy Z (jmv Z) (jy Z (Ak Z) (jy Z (jf La Z) (jy Z (jl k0 O29 Z Z) (jy Z (jf Gn Z) (jy Z (jl k1 O3 Z Z) (jy Z (jmv Z) (jy Z (Ak Z) (jy Z (jf Zw Z) (jy Z (jf Sa Z) (jy Z (jl k0 O29 Z Z) ?_))))))))))
 refine jy Z (jmv Z) (jy Z (Ak Z) (jy Z (jf Qh Z) (jy Z (jl k0 O3 Z Z) (jy Z (jix U29 Z21 d7 Z Z Z (by omega)) (jy Z (jlI (dix d7 na (by omega)) O21 Z) (jyo Z (js (jig (i:=(Int.toNat i.Dst)) U29 Z21 k0 Z Z (by omega) (by first|omega|(simp<;>omega))) (jyn d0 (kc k1 (kc k3 kn)) (jyo Z (jsg k0 Z Z21 Z Z Z (by first|omega|(simp<;>omega)) (wI (wad (dix d9 na (by omega)))) (jyn d0 (kc k1 (kc k3 kn)) ?_)))))))))))
 refine jyd (jx (jr (jm Z (js (Ak Z) (js (jf Qh Z) (js (jl k1 O3 Z Z) (js (Al Z Z (by omega)) (js (Ak Z) (js (jf Qh Z) (jst k1 Z3 Z Z Z s10 (jn ?_)))))))))))
 refine jbn ?_
 have hop:i.Op=17:=by assumption
 have hee:ea=i.Args.map (Aq vs):=by rw[hea,List.take_of_length_le (by omega)];exact CT hav
 have q1:Ab i (Aq vs) me 0=0:=by first|(simp[Ag,Ab,Ac,Ai,Ah,Ae,nA,w32,hop];done)|(simp[Ag,Ab,Ac,Ai,Ah,Ae,nA,w32,hop];split<;>simp_all;done)|(simp_all[Ag,Ab,Ac,Ai,Ah,Ae,nA,w32];done)|(unfold Ab Ac Ae;simp_all[w32];done)
 have q2:Ac i (Aq vs) me x0=x0:=by first|(simp[Ag,Ab,Ac,Ai,Ah,Ae,nA,w32,hop];done)|(simp[Ag,Ab,Ac,Ai,Ah,Ae,nA,w32,hop];split<;>simp_all;done)|(simp_all[Ag,Ab,Ac,Ai,Ah,Ae,nA,w32];done)|(unfold Ab Ac Ae;simp_all[w32];done)
 have q3:Ai i (Aq vs) me=me:=by first|(simp[Ag,Ab,Ac,Ai,Ah,Ae,nA,w32,hop];done)|(simp[Ag,Ab,Ac,Ai,Ah,Ae,nA,w32,hop];split<;>simp_all;done)|(simp_all[Ag,Ab,Ac,Ai,Ah,Ae,nA,w32];done)|(unfold Ab Ac Ae;simp_all[w32];done)
 have q4:Ah i (Aq vs) cl=cl++([⟨i.Imm,ea⟩]):=by unfold Ah;rw[if_pos hop,hee]
 have q5:((nA i na:Nat):Int)=((na:Nat):Int)+1:=by first|(simp[Ag,Ab,Ac,Ai,Ah,Ae,nA,w32,hop];done)|(simp[Ag,Ab,Ac,Ai,Ah,Ae,nA,w32,hop];split<;>simp_all;done)|(simp_all[Ag,Ab,Ac,Ai,Ah,Ae,nA,w32];done)|(unfold Ab Ac Ae;simp_all[w32];done)
 have q6:(!decide (Ae i (Aq vs) me=0))=false:=by first|(simp[Ag,Ab,Ac,Ai,Ah,Ae,nA,w32,hop];done)|(simp[Ag,Ab,Ac,Ai,Ah,Ae,nA,w32,hop];split<;>simp_all;done)|(simp_all[Ag,Ab,Ac,Ai,Ah,Ae,nA,w32];done)|(unfold Ab Ac Ae;simp_all[w32];done)
 have hP:De i vs me an na (List.set (List.set vs (Int.toNat i.Dst) 0) (Int.toNat i.Dst) (ix an na)):=De.two hd9 hd9 (by unfold Ag;rw[if_neg (by omega),if_neg (by omega),if_neg (by omega),if_pos hop,if_pos (Io.2 (by omega)),Jm])
 rw[q6,q1,q2,q3,q4,q5]
 exact jd0 Z (⟨(v135,List.set (List.set vs (Int.toNat i.Dst) 0) (Int.toNat i.Dst) (ix an na)),hP⟩:{ c:Value×List Int // De i vs me an na c.2 }) Z (dc d9 dn) (fun _ _=>(kd (kc k3 (kc k0 kn))))
 refine jsk (jx (jr (jm Z (js (Ak Z) (js (jf Qh Z) (js (jl k1 O3 Z Z) (js (Al Z Z (by omega)) (js (Ak Z) (js (jf Qh Z) (jst k1 Z3 Z Z Z s10 (jn ?_)))))))))))
 refine jbn ?_
 have hop:i.Op=17:=by assumption
 have hee:ea=i.Args.map (Aq vs):=by rw[hea,List.take_of_length_le (by omega)];exact CT hav
 have q1:Ab i (Aq vs) me 0=0:=by first|(simp[Ag,Ab,Ac,Ai,Ah,Ae,nA,w32,hop];done)|(simp[Ag,Ab,Ac,Ai,Ah,Ae,nA,w32,hop];split<;>simp_all;done)|(simp_all[Ag,Ab,Ac,Ai,Ah,Ae,nA,w32];done)|(unfold Ab Ac Ae;simp_all[w32];done)
 have q2:Ac i (Aq vs) me x0=x0:=by first|(simp[Ag,Ab,Ac,Ai,Ah,Ae,nA,w32,hop];done)|(simp[Ag,Ab,Ac,Ai,Ah,Ae,nA,w32,hop];split<;>simp_all;done)|(simp_all[Ag,Ab,Ac,Ai,Ah,Ae,nA,w32];done)|(unfold Ab Ac Ae;simp_all[w32];done)
 have q3:Ai i (Aq vs) me=me:=by first|(simp[Ag,Ab,Ac,Ai,Ah,Ae,nA,w32,hop];done)|(simp[Ag,Ab,Ac,Ai,Ah,Ae,nA,w32,hop];split<;>simp_all;done)|(simp_all[Ag,Ab,Ac,Ai,Ah,Ae,nA,w32];done)|(unfold Ab Ac Ae;simp_all[w32];done)
 have q4:Ah i (Aq vs) cl=cl++([⟨i.Imm,ea⟩]):=by unfold Ah;rw[if_pos hop,hee]
 have q5:((nA i na:Nat):Int)=((na:Nat):Int)+1:=by first|(simp[Ag,Ab,Ac,Ai,Ah,Ae,nA,w32,hop];done)|(simp[Ag,Ab,Ac,Ai,Ah,Ae,nA,w32,hop];split<;>simp_all;done)|(simp_all[Ag,Ab,Ac,Ai,Ah,Ae,nA,w32];done)|(unfold Ab Ac Ae;simp_all[w32];done)
 have q6:(!decide (Ae i (Aq vs) me=0))=false:=by first|(simp[Ag,Ab,Ac,Ai,Ah,Ae,nA,w32,hop];done)|(simp[Ag,Ab,Ac,Ai,Ah,Ae,nA,w32,hop];split<;>simp_all;done)|(simp_all[Ag,Ab,Ac,Ai,Ah,Ae,nA,w32];done)|(unfold Ab Ac Ae;simp_all[w32];done)
 have hP:De i vs me an na (List.set vs (Int.toNat i.Dst) 0):=De.one hd9 (by unfold Ag;rw[if_neg (by omega),if_neg (by omega),if_neg (by omega),if_pos hop,if_neg (fun h=>by have:=Io.1 h;omega)])
 rw[q6,q1,q2,q3,q4,q5]
 exact jd0 Z (⟨(v135,List.set vs (Int.toNat i.Dst) 0),hP⟩:{ c:Value×List Int // De i vs me an na c.2 }) Z (dc d7 dn) (fun _ _=>(kd (kc k3 (kc k0 kn))))
 refine jq (jr (js (Ao Z Z) (ja Z (jn (jx ?_)))))
 refine jif Z (fun hc9=>?_) (fun hc9=>?_)
 have ho2:=ho2 (by omega) (by omega) (by omega)
 have hb0:=Ob (i:=i) (vs:=vs) (k:=0) hav (by omega)
 have hr0:=hav _ (Ax (l:=i.Args) (i:=0) (by omega))
 have hb1:=Ob (i:=i) (vs:=vs) (k:=1) hav (by omega)
 have hr1:=hav _ (Ax (l:=i.Args) (i:=1) (by omega))
 have hd9:=hmk i.Dst (by unfold Ba;rw[if_neg (by omega),if_pos (by omega)];simp)
 have hd8:=hmk i.Two (by unfold Ba;rw[if_neg (by omega),if_pos (by omega)];simp)
 refine jq (Bz false (.a 0 (.a 1 (.a 2 (.a 4 (.a 5 (.a 6 (.o 3 (.o 7 (.o 8 (.a 9 (.a 10 (.a 11 (.a 12 (.a 13 .e)))))))))))))) Bi (by kernel_rfl) (kc k0 kn) fun F44=>jy Z (jmv Z) (jy Z (jf Hi Z) (jy Z (jl k0 O22 Z Z) (jy Z (jmv Z) (jy Z (jf Hi Z) (jy Z (jl k0 O22 Z Z) (jyo Z (jdq d1 fun q46 w46=>jc Lb Z Z (Kn 0 w2.one w3.one oi oj w46.one (by omega) (hav _ (Ax (by first|omega|simp;done|decide)))) (dc (Am.c_Args d2) dn) (kc k1 (kc k1 kn)) (fun _=>p0) (fun _=>p2) fun _=>jyn d0 (kc k2 kn) ?_))))))))
 refine jyo Z (jc Lb Z Z (Kn 1 w2.one w3.one oi oj w46.one (by omega) (hav _ (Ax (by first|omega|simp;done|decide)))) (dc (Am.c_Args d3) dn) (kd kn) (fun _=>p0) (fun _=>p2) fun _=>jyn d0 (kc k2 kn) (jyo Z (jwr (wgl (i:=(Int.toNat (ix i.Args 0))) k1 (by omega)) fun w49=>jwr (wgl (i:=(Int.toNat (ix i.Args 1))) k1 (by omega)) fun w50=>jcv VS Z Z (IC (ix vs (Int.toNat (ix i.Args 0))) (ix vs (Int.toNat (ix i.Args 1))) w49 w50) dn kn (jyn d0 (kc k2 kn) (jy Z (jmv Z) (jy Z (Bs Z Z) (jy Z (Bs Z Z) (jy Z (jas Z) ?_))))))))
 refine jy Z (jas Z) (jyd (jx (jq (Bz false (.a 0 (.a 1 (.a 2 (.a 3 (.a 4 (.a 5 (.a 6 (.o 7 (.o 8 .e))))))))) Bi (by kernel_rfl) (kc k0 (kc k1 kn)) fun F51=>jy Z (jmv Z) (jy Z (Ak Z) (jy Z (jf La Z) (jy Z (jl k0 O29 Z Z) (jy Z (jf Gn Z) (jy Z (jl k1 O3 Z Z) (jy Z (jmv Z) ?_))))))))))
 refine jyo Z (js (jig (i:=(Int.toNat i.Dst)) U29 Z21 k1 Z Z (by omega) (by omega)) (jyn d0 (kc k0 (kc k1 kn)) (jyo Z (jsg k1 Z Z21 Z Z Z (by omega) (wI (wp (JE.wrap_wrap _ _))) (jyn d0 (kc k1 (kc k1 kn)) (jyd (jx (Bz false (.a 0 (.a 1 (.a 2 (.a 3 (.a 4 (.a 5 (.a 6 (.o 7 (.o 8 .e))))))))) Bi (by kernel_rfl) (kc k1 (kc k1 kn)) fun F54=>jy Z (jmv Z) (jy Z (Ak Z) (jy Z (jf La Z) ?_))))))))))
 refine jy Z (jl k0 O29 Z Z) (jy Z (jf Vm Z) (jy Z (jl k1 O3 Z Z) (jy Z (jmv Z) (jyo Z (js (jig (i:=(Int.toNat i.Two)) U29 Z21 k0 Z Z (by omega) (by first|omega|(simp<;>omega))) (jyn d0 (kc k1 (kc k1 kn)) (jyo Z (jsg k0 Z Z21 Z Z Z (by first|omega|(simp<;>omega)) (wI (wp (JE.wrap_wrap _ _))) (jyn d0 (kc k1 (kc k1 kn)) (jyd (jbn ?_)))))))))))
 have q1:Ab i (Aq vs) me 0=0:=by first|(simp[Ag,Ab,Ac,Ai,Ah,Ae,nA,w32,hb0,hb1,hc1,hc2,hc4,hc6,hc9];done)|(simp[Ag,Ab,Ac,Ai,Ah,Ae,nA,w32,hb0,hb1,hc1,hc2,hc4,hc6,hc9];split<;>simp_all;done)|(simp_all[Ag,Ab,Ac,Ai,Ah,Ae,nA,w32];done)|(unfold Ab Ac Ae;simp_all[w32];done)
 have q2:Ac i (Aq vs) me x0=x0:=by first|(simp[Ag,Ab,Ac,Ai,Ah,Ae,nA,w32,hb0,hb1,hc1,hc2,hc4,hc6,hc9];done)|(simp[Ag,Ab,Ac,Ai,Ah,Ae,nA,w32,hb0,hb1,hc1,hc2,hc4,hc6,hc9];split<;>simp_all;done)|(simp_all[Ag,Ab,Ac,Ai,Ah,Ae,nA,w32];done)|(unfold Ab Ac Ae;simp_all[w32];done)
 have q3:Ai i (Aq vs) me=me:=by first|(simp[Ag,Ab,Ac,Ai,Ah,Ae,nA,w32,hb0,hb1,hc1,hc2,hc4,hc6,hc9];done)|(simp[Ag,Ab,Ac,Ai,Ah,Ae,nA,w32,hb0,hb1,hc1,hc2,hc4,hc6,hc9];split<;>simp_all;done)|(simp_all[Ag,Ab,Ac,Ai,Ah,Ae,nA,w32];done)|(unfold Ab Ac Ae;simp_all[w32];done)
 have q4:Ah i (Aq vs) cl=cl:=by first|(simp[Ag,Ab,Ac,Ai,Ah,Ae,nA,w32,hb0,hb1,hc1,hc2,hc4,hc6,hc9];done)|(simp[Ag,Ab,Ac,Ai,Ah,Ae,nA,w32,hb0,hb1,hc1,hc2,hc4,hc6,hc9];split<;>simp_all;done)|(simp_all[Ag,Ab,Ac,Ai,Ah,Ae,nA,w32];done)|(unfold Ab Ac Ae;simp_all[w32];done)
 have q5:((nA i na:Nat):Int)=((na:Nat):Int):=by first|(simp[Ag,Ab,Ac,Ai,Ah,Ae,nA,w32,hb0,hb1,hc1,hc2,hc4,hc6,hc9];done)|(simp[Ag,Ab,Ac,Ai,Ah,Ae,nA,w32,hb0,hb1,hc1,hc2,hc4,hc6,hc9];split<;>simp_all;done)|(simp_all[Ag,Ab,Ac,Ai,Ah,Ae,nA,w32];done)|(unfold Ab Ac Ae;simp_all[w32];done)
 have q6:(!decide (Ae i (Aq vs) me=0))=false:=by first|(simp[Ag,Ab,Ac,Ai,Ah,Ae,nA,w32,hb0,hb1,hc1,hc2,hc4,hc6,hc9];done)|(simp[Ag,Ab,Ac,Ai,Ah,Ae,nA,w32,hb0,hb1,hc1,hc2,hc4,hc6,hc9];split<;>simp_all;done)|(simp_all[Ag,Ab,Ac,Ai,Ah,Ae,nA,w32];done)|(unfold Ab Ac Ae;simp_all[w32];done)
 have hP:De i vs me an na (List.set (List.set vs (Int.toNat i.Dst) ((Gs (ix vs (Int.toNat (ix i.Args 0))) (ix vs (Int.toNat (ix i.Args 1)))).1)) (Int.toNat i.Two) ((Gs (ix vs (Int.toNat (ix i.Args 0))) (ix vs (Int.toNat (ix i.Args 1)))).2)):=De.two hd9 hd8 (by first|(simp[Ag,w32,Io,Jm,hb0,hb1,hc1,hc2,hc4,hc6,hc9];done)|(simp[Ag,w32,Io,Jm,hb0,hb1,hc1,hc2,hc4,hc6,hc9];split<;>simp_all;done)|(simp_all[Ag,w32,Io,Jm];done))
 rw[q6,q1,q2,q3,q4,q5]
 exact jd0 Z (⟨(cv,List.set (List.set vs (Int.toNat i.Dst) ((Gs (ix vs (Int.toNat (ix i.Args 0))) (ix vs (Int.toNat (ix i.Args 1)))).1)) (Int.toNat i.Two) ((Gs (ix vs (Int.toNat (ix i.Args 0))) (ix vs (Int.toNat (ix i.Args 1)))).2)),hP⟩:{ c:Value×List Int // De i vs me an na c.2 }) Z (dc d7 dn) (fun _ _=>(kc k1 (kc k0 (kc k1 (kc k1 kn)))))
 have ho2:=ho2 (by omega) (by omega) (by omega)
 have hb0:=Ob (i:=i) (vs:=vs) (k:=0) hav (by omega)
 have hr0:=hav _ (Ax (l:=i.Args) (i:=0) (by omega))
 have hb1:=Ob (i:=i) (vs:=vs) (k:=1) hav (by omega)
 have hr1:=hav _ (Ax (l:=i.Args) (i:=1) (by omega))
 have hd9:=hmk i.Dst (by unfold Ba;rw[if_neg (by omega),if_neg (by omega)];simp)
 refine jq (Bz false (.a 0 (.a 1 (.a 2 (.a 3 (.a 4 (.a 6 (.a 7 (.a 8 (.o 5 (.o 9 (.o 10 (.a 11 (.a 12 (.a 13 (.a 14 (.a 15 .e)))))))))))))))) Bi (by kernel_rfl) (kc k0 kn) fun F57=>jy Z (jf Ke Z) (jy Z (jl k0 O3 Z Z) (jy Z (jmv Z) (jy Z (jf Hi Z) (jy Z (jl k0 O22 Z Z) (jy Z (jmv Z) (jy Z (jf Hi Z) (jy Z (jl k0 O22 Z Z) (jyo Z (jdq d1 fun q59 w59=>?_))))))))))
 refine jc Lb Z Z (Kn 0 w2.one w3.one oi oj w59.one (by omega) (hav _ (Ax (by first|omega|simp;done|decide)))) (dc (Am.c_Args d2) dn) (kc k1 (kc k1 kn)) (fun _=>p0) (fun _=>p2) fun _=>jyn d0 (kc k2 kn) (jyo Z (jc Lb Z Z (Kn 1 w2.one w3.one oi oj w59.one (by omega) (hav _ (Ax (by first|omega|simp;done|decide)))) (dc (Am.c_Args d3) dn) (kd kn) (fun _=>p0) (fun _=>p2) fun _=>jyn d0 (kc k2 kn) (jyo Z (jwr (wgl (i:=(Int.toNat (ix i.Args 0))) k1 (by omega)) fun w62=>jwr (wgl (i:=(Int.toNat (ix i.Args 1))) k1 (by omega)) fun w63=>jcv VR Z Z (IM i.Op (ix vs (Int.toNat (ix i.Args 0))) (ix vs (Int.toNat (ix i.Args 1))) w62 w63) dn kn (jyn d0 (kc k2 kn) (jy Z (jmv Z) (jy Z (Bs Z Z) ?_)))))))
 refine jy Z (Bs Z Z) (jy Z (jas Z) (jy Z (jas Z) (jyd (jx (jq (jq (jr (jm Z (js (Dq Z) (jn (jx ?_)))))))))))
 refine jif Z (fun hc10=>?_) (fun hc10=>?_)
 refine jq (jr (jm Z (jc Oi Z Z (Np _ _ w1.one w2.one w3.one oi oj w59.one) dn (kc k0 kn) (fun _=>p0) (fun _=>p1) fun _=>jn (jx (jrt (jtr (jbr ?_)))))))
 have q1:Ab i (Aq vs) me 0=2:=by first|(simp[Ag,Ab,Ac,Ai,Ah,Ae,nA,w32,hb0,hb1,hc1,hc2,hc4,hc6,hc9,hc10];done)|(simp[Ag,Ab,Ac,Ai,Ah,Ae,nA,w32,hb0,hb1,hc1,hc2,hc4,hc6,hc9,hc10];split<;>simp_all;done)|(simp_all[Ag,Ab,Ac,Ai,Ah,Ae,nA,w32];done)|(unfold Ab Ac Ae;simp_all[w32];done)
 have q2:Ac i (Aq vs) me x0=(-1):=by first|(simp[Ag,Ab,Ac,Ai,Ah,Ae,nA,w32,hb0,hb1,hc1,hc2,hc4,hc6,hc9,hc10];done)|(simp[Ag,Ab,Ac,Ai,Ah,Ae,nA,w32,hb0,hb1,hc1,hc2,hc4,hc6,hc9,hc10];split<;>simp_all;done)|(simp_all[Ag,Ab,Ac,Ai,Ah,Ae,nA,w32];done)|(unfold Ab Ac Ae;simp_all[w32];done)
 have q3:Ai i (Aq vs) me=me:=by first|(simp[Ag,Ab,Ac,Ai,Ah,Ae,nA,w32,hb0,hb1,hc1,hc2,hc4,hc6,hc9,hc10];done)|(simp[Ag,Ab,Ac,Ai,Ah,Ae,nA,w32,hb0,hb1,hc1,hc2,hc4,hc6,hc9,hc10];split<;>simp_all;done)|(simp_all[Ag,Ab,Ac,Ai,Ah,Ae,nA,w32];done)|(unfold Ab Ac Ae;simp_all[w32];done)
 have q4:Ah i (Aq vs) cl=cl:=by first|(simp[Ag,Ab,Ac,Ai,Ah,Ae,nA,w32,hb0,hb1,hc1,hc2,hc4,hc6,hc9,hc10];done)|(simp[Ag,Ab,Ac,Ai,Ah,Ae,nA,w32,hb0,hb1,hc1,hc2,hc4,hc6,hc9,hc10];split<;>simp_all;done)|(simp_all[Ag,Ab,Ac,Ai,Ah,Ae,nA,w32];done)|(unfold Ab Ac Ae;simp_all[w32];done)
 have q5:((nA i na:Nat):Int)=((na:Nat):Int):=by first|(simp[Ag,Ab,Ac,Ai,Ah,Ae,nA,w32,hb0,hb1,hc1,hc2,hc4,hc6,hc9,hc10];done)|(simp[Ag,Ab,Ac,Ai,Ah,Ae,nA,w32,hb0,hb1,hc1,hc2,hc4,hc6,hc9,hc10];split<;>simp_all;done)|(simp_all[Ag,Ab,Ac,Ai,Ah,Ae,nA,w32];done)|(unfold Ab Ac Ae;simp_all[w32];done)
 have q6:(!decide (Ae i (Aq vs) me=0))=true:=by first|(simp[Ag,Ab,Ac,Ai,Ah,Ae,nA,w32,hb0,hb1,hc1,hc2,hc4,hc6,hc9,hc10];done)|(simp[Ag,Ab,Ac,Ai,Ah,Ae,nA,w32,hb0,hb1,hc1,hc2,hc4,hc6,hc9,hc10];split<;>simp_all;done)|(simp_all[Ag,Ab,Ac,Ai,Ah,Ae,nA,w32];done)|(unfold Ab Ac Ae;simp_all[w32];done)
 have hP:De i vs me an na (vs):=De.trap (by first|(simp[Ag,Ab,Ac,Ai,Ah,Ae,nA,w32,hb0,hb1,hc1,hc2,hc4,hc6,hc9,hc10];done)|(simp_all[Ag,Ab,Ac,Ai,Ah,Ae,nA,w32];done))
 rw[q6,q1,q2,q3,q4,q5]
 exact jr0 Z (⟨(cv,vs),hP⟩:{ c:Value×List Int // De i vs me an na c.2 }) Z (dc d3 dn) (fun _ _=>(kd (kc k1 (kc k1 kn))))
 refine jsk (jx (Bz false (.a 0 (.a 1 (.a 2 (.a 3 (.a 4 (.a 5 (.a 6 (.o 7 (.o 8 .e))))))))) Bi (by kernel_rfl) (kc k0 (kc k1 kn)) fun F64=>jy Z (jmv Z) (jy Z (Ak Z) (jy Z (jf La Z) (jy Z (jl k0 O29 Z Z) (jy Z (jf Gn Z) (jy Z (jl k1 O3 Z Z) (jy Z (jmv Z) (jyo Z (js (jig (i:=(Int.toNat i.Dst)) U29 Z21 k1 Z Z (by omega) (by omega)) ?_))))))))))
 refine jyn d0 (kc k0 (kc k1 kn)) (jyo Z (jsg k1 Z Z21 Z Z Z (by omega) (wI (wdo (wp w62))) (jyn d0 (kc k1 (kc k1 kn)) (jyd (jbn ?_)))))
 have q1:Ab i (Aq vs) me 0=0:=by first|(simp[Ag,Ab,Ac,Ai,Ah,Ae,nA,w32,hb0,hb1,hc1,hc2,hc4,hc6,hc9,hc10];done)|(simp[Ag,Ab,Ac,Ai,Ah,Ae,nA,w32,hb0,hb1,hc1,hc2,hc4,hc6,hc9,hc10];split<;>simp_all;done)|(simp_all[Ag,Ab,Ac,Ai,Ah,Ae,nA,w32];done)|(unfold Ab Ac Ae;simp_all[w32];done)
 have q2:Ac i (Aq vs) me x0=x0:=by first|(simp[Ag,Ab,Ac,Ai,Ah,Ae,nA,w32,hb0,hb1,hc1,hc2,hc4,hc6,hc9,hc10];done)|(simp[Ag,Ab,Ac,Ai,Ah,Ae,nA,w32,hb0,hb1,hc1,hc2,hc4,hc6,hc9,hc10];split<;>simp_all;done)|(simp_all[Ag,Ab,Ac,Ai,Ah,Ae,nA,w32];done)|(unfold Ab Ac Ae;simp_all[w32];done)
 have q3:Ai i (Aq vs) me=me:=by first|(simp[Ag,Ab,Ac,Ai,Ah,Ae,nA,w32,hb0,hb1,hc1,hc2,hc4,hc6,hc9,hc10];done)|(simp[Ag,Ab,Ac,Ai,Ah,Ae,nA,w32,hb0,hb1,hc1,hc2,hc4,hc6,hc9,hc10];split<;>simp_all;done)|(simp_all[Ag,Ab,Ac,Ai,Ah,Ae,nA,w32];done)|(unfold Ab Ac Ae;simp_all[w32];done)
 have q4:Ah i (Aq vs) cl=cl:=by first|(simp[Ag,Ab,Ac,Ai,Ah,Ae,nA,w32,hb0,hb1,hc1,hc2,hc4,hc6,hc9,hc10];done)|(simp[Ag,Ab,Ac,Ai,Ah,Ae,nA,w32,hb0,hb1,hc1,hc2,hc4,hc6,hc9,hc10];split<;>simp_all;done)|(simp_all[Ag,Ab,Ac,Ai,Ah,Ae,nA,w32];done)|(unfold Ab Ac Ae;simp_all[w32];done)
 have q5:((nA i na:Nat):Int)=((na:Nat):Int):=by first|(simp[Ag,Ab,Ac,Ai,Ah,Ae,nA,w32,hb0,hb1,hc1,hc2,hc4,hc6,hc9,hc10];done)|(simp[Ag,Ab,Ac,Ai,Ah,Ae,nA,w32,hb0,hb1,hc1,hc2,hc4,hc6,hc9,hc10];split<;>simp_all;done)|(simp_all[Ag,Ab,Ac,Ai,Ah,Ae,nA,w32];done)|(unfold Ab Ac Ae;simp_all[w32];done)
 have q6:(!decide (Ae i (Aq vs) me=0))=false:=by first|(simp[Ag,Ab,Ac,Ai,Ah,Ae,nA,w32,hb0,hb1,hc1,hc2,hc4,hc6,hc9,hc10];done)|(simp[Ag,Ab,Ac,Ai,Ah,Ae,nA,w32,hb0,hb1,hc1,hc2,hc4,hc6,hc9,hc10];split<;>simp_all;done)|(simp_all[Ag,Ab,Ac,Ai,Ah,Ae,nA,w32];done)|(unfold Ab Ac Ae;simp_all[w32];done)
 have hP:De i vs me an na (List.set vs (Int.toNat i.Dst) ((doM i.Op (ix vs (Int.toNat (ix i.Args 0))) (ix vs (Int.toNat (ix i.Args 1)))).1)):=De.one hd9 (by first|(simp[Ag,w32,Io,Jm,hb0,hb1,hc1,hc2,hc4,hc6,hc9,hc10];done)|(simp[Ag,w32,Io,Jm,hb0,hb1,hc1,hc2,hc4,hc6,hc9,hc10];split<;>simp_all;done)|(simp_all[Ag,w32,Io,Jm];done))
 rw[q6,q1,q2,q3,q4,q5]
 exact jd0 Z (⟨(cv,List.set vs (Int.toNat i.Dst) ((doM i.Op (ix vs (Int.toNat (ix i.Args 0))) (ix vs (Int.toNat (ix i.Args 1)))).1)),hP⟩:{ c:Value×List Int // De i vs me an na c.2 }) Z (dc d5 dn) (fun _ _=>(kc k1 (kc k0 (kc k1 (kc k1 kn)))))
end Go.Proofs.YtmfkkodnghambaaGreat
