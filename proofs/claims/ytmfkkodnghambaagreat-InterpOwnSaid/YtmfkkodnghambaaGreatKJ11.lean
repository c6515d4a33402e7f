/- Lemmas that the claim is made of. Conditions: each lemma names its own. -/
import Derived.Test.YtmfkkodnghambaaGreatKJ10
import Derived.Recover
set_option linter.unusedSectionVars false
set_option linter.unusedSimpArgs false
set_option linter.unusedVariables false
namespace Go.JE
variable {P : Program} {n : Fs} {w0 : World} {Q : Exit → Act → World → Prop} {e : Env} {H : Heap} {X : Cx} {D D0 : List Dt} {L L0 M N : List Res} {M9 : Nat}
def mkR (M9 : Nat) : Res where
 sat F H := Mk H M9 ∧ F M9 = none
 own k := k = M9
 lt := fun h e => e ▸ h.1.lt
 no := fun h e => e ▸ h.2
 st := fun _ _ h1 h2 h => ⟨h.1.of (h2 M9 rfl),h1 M9 rfl⟩
theorem crf {α σ : Type} {g : Operand} {ps : List Nat} {assign body : Code} {gf go : Nat} {lb : Array Value} {encs : α → List Value} {xs : List α} (envx : α → Env)
   (Lf : σ → List Res) (Ow : Heap → Nat → Prop) (inv : List α → σ → Prop) (s0 : σ) (hg : ev e g = some (.func (.func gf) #[] lb)) (hE : Ent P gf) (hlen : ∀ x,(encs x).length = ps.length)
   (hps : ps.all (fun p => Nat.blt p n.sz) = true)
   (hOw : ∀ pre s F A,inv pre s → Ok F A (Lf s) → ∀ k,Own (Lf s) k ↔ Ow A k) (hOc : ∀ pre s F A,inv pre s → Ok F A (Lf s) → ∀ k,Own (Lf s) k → ∃ o,A[k]? = some o ∧ o.isCells = true) (hOd : ∀ pre s F G A,inv pre s → F.le G → Ok G A (Lf s) → Ok F A (Lf s)) (hOg : ∀ A B : Heap,B[go]? = A[go]? → ∀ k,Ow B k → Ow A k)
   (hit : ∀ F H,InH F H → AllD F D → Ok F H (Lf s0) → IterQ P gf lb (fun x => (encs x).toArray) Ow xs H ∧ go < H.size) (h0 : inv [] s0)
   (hassign : ∀ (l : Nat) (x : α) (H' : Heap),RCF P ⟨n.sz,[]⟩ w0 (some l) 1 (AQ ⟨n.sz,[]⟩ w0 (envx x) H') (laid e ps (encs x)) assign H')
   (hbody : ∀ (l : Nat) (pre : List α) (x : α) (s : σ) (X2 : Cx),inv pre s → pre.length < xs.length → RCH P ⟨n.sz,[]⟩ w0 (some l) 1 (RQ3 w0 X2 (inv (pre ++ [x])) Lf) X2 D (Lf s) (envx x) body)
   (hdone : ∀ (M9 : Nat) (s : σ),inv xs s → X.H.size ≤ M9 → QH (n.mark M9) w0 Q X D (mkR M9 :: Lf s) e .normal) :
   CH P n w0 Q X D (Lf s0) e (.rangeFunc g ps.toArray assign body) := by
 refine CH.rangeFunc envx Lf Ow inv s0 hg hE hlen hps hOw hOc hOd hOg (fun F H hp => hit F H hp.hin hp.hd hp.ok) h0 hassign hbody (fun M9 s F H H' hi hF hM hX hp hMk => ?_)
 intro a w hf hw
 have hs := hp.hw.1
 have hFn : F M9 = none := by
   cases h : F M9 with
   | none => rfl
   | some o => have := (Array.getElem?_eq_some_iff.1 (hF M9 o h)).1; omega
 refine hdone M9 s hi hX F H' ⟨hp.hx,hp.hin,hp.hw,hp.hd,⟨⟨hMk,hFn⟩,fun k hk ho => ?_,hp.ok⟩,fun k hk => ?_⟩ a w hf hw
 · have hk' : k = M9 := hk
   subst hk'
   obtain ⟨o,h1,h2⟩ := hOc _ s F H' hi hp.ok k ho
   unfold Mk at hMk
   rw [hMk] at h1; injection h1 with h1; subst h1; cases h2
 · rcases hk with hk | hk
   · have hk' : k = M9 := hk
     subst hk'; exact .inl hX
   · exact hp.ge k hk
section
variable {f : FuncId} {fn : Func} {c : Code} {args : List Value} {ι : Type} {val : ι → Value} {dr : ι → List Dt} {lr : Nat → ι → List Res}
def RQM (P : Program) (fn : Func) (w0 : World) (X : Cx) {ι : Type} (val : ι → Value) (dr : ι → List Dt) (lr : Nat → ι → List Res) : Exit → Act → World → Prop := BQM P fn w0 (fun v H' => ∃ i F',v = val i ∧ ∀ B,B ≤ X.n → Hp X (dr i) (lr B i) F' H')
theorem jenterM {m : Nat} (hf : P.funcs[f]? = some fn) (hb : fn.body = some c) (hn : fn.ntmps = m) (ha : Nat.ble args.length m = true)
   (h : ∀ (w0 : World) (X : Cx),CH P ⟨m,[]⟩ w0 (RQM P fn w0 X val dr lr) X D0 L0 (number 0 args) c) : Tr P f args.toArray D0 L0 val dr lr := fun F H hin hd ho =>
 Ct.enterM hf hb hn ha fun w0 hw => h w0 ⟨Own L0,H,F⟩ F H ⟨PH.ext.refl F,hin,Kw.refl _ _,hd,ho,fun k hk => .inr hk⟩
theorem Hp.unmark {F : PH} (hp : Hp X D L F H) (hk : Tk L (mkR M9) M) (hX : X.H.size ≤ M9) : Hp X D M F (puto H M9 (.deferred none)) := by
 obtain ⟨⟨h1,h2⟩,h3,h4⟩ := hk.ok hp.ok
 have ho : ∀ k,k ≠ M9 → (puto H M9 (.deferred none))[k]? = H[k]? := fun k hk => by
   unfold puto; exact Array.getElem?_setIfInBounds_ne (fun e => hk e.symm)
 have hsz : (puto H M9 (.deferred none)).size = H.size := by unfold puto; simp
 refine ⟨hp.hx,hp.hin.of (fun k o hF => ho k (fun e => by subst e; rw [h2] at hF; cases hF)),⟨by rw [hsz]; exact hp.hw.1,fun k hk1 hk2 => (ho k (by omega)).trans (hp.hw.2 k hk1 hk2)⟩,hp.hd,h4.st (PH.le.refl F) (by rw [hsz]; exact Nat.le_refl _) (fun k hk1 => h4.no hk1) (fun k hk1 => ho k (fun e => by subst e; exact h3 k rfl hk1)),fun k hk1 => hp.ge k (hk.own (.inr hk1))⟩
theorem jrM {m t : Nat} {v : Value} (hr : fn.results = #[.tmp t]) (hv : lk e t = some v) (hmk : Tk L (mkR M9) M) (i : ι) (hm : v = val i) (hd : Sd D M (dr i)) (hk : ∀ B,B ≤ X.n → Tks M (lr B i) N) (hX : X.H.size ≤ M9) : QH (Fs.mark ⟨m,[]⟩ M9) w0 (RQM P fn w0 X val dr lr) X D L e .ret := fun F H hp => by
 have hp2 := hp.unmark hmk hX
 exact PF.ret1M hr hv (hmk.ok hp.ok).1.1 ⟨i,F,hm,fun B hB => hp2.sub hd (hk B hB)⟩
end
end Go.JE
namespace Go.JE
variable {P : Program} {n : Fs} {w0 : World} {Q : Exit → Act → World → Prop} {e : Env} {H A : Heap} {X : Cx} {D D0 : List Dt} {L L0 M N : List Res} {F G : PH} {k : Nat}
def OwM (a b go : Nat) (A : Heap) (k : Nat) : Prop := k = a ∨ k = b ∨ k = go ∨ ∃ cur E,A[go]? = some (.cells cur E (0,0)) ∧ ∃ v ∈ cur.toList,v.ownBlock = some k
theorem OwM.go {a b go : Nat} {A B : Heap} (h : B[go]? = A[go]?) {k : Nat} (hk : OwM a b go B k) : OwM a b go A k := by
 unfold OwM at *
 rw [h] at hk; exact hk
section
variable {α : Type} {r : Rp α} {T To Ta Tb : TypeId} {B a b go m : Nat} {va vb : Value} {vs : List Value} {ls : List (List α)}
abbrev Lm (a : Nat) (Ta : TypeId) (va : Value) (b : Nat) (Tb : TypeId) (vb : Value) (B : Nat) (r : Rp α) (T To : TypeId) (go m : Nat) (s : List Value × List (List α)) : List Res :=
 [bx a Ta [va],bx b Tb [vb],rw' B r T s.1 s.2,gl B rV To (.slice (some ⟨go,0,none⟩) m m) s.1]
theorem own_rws : ∀ {vs : List Value} {ls : List (List α)},vs.length = ls.length → (Own (rws B r T vs ls) k ↔ ∃ v ∈ vs,v.ownBlock = some k)
 | [],[],_ => ⟨fun h => h.elim,fun ⟨_,h,_⟩ => by cases h⟩
 | v :: vs,l :: ls,h => by
   have ih := own_rws (vs := vs) (ls := ls) (by simpa using h)
   have e : Own (rws B r T (v :: vs) (l :: ls)) k ↔ v.ownBlock = some k ∨ Own (rws B r T vs ls) k := Iff.rfl
   rw [e,ih]; simp
 | [],_ :: _,h => by cases h
 | _ :: _,[],h => by cases h
theorem rows_cells : ∀ {vs : List Value} {ls : List (List α)},Ok F A (rws B r T vs ls) → ∀ k,Own (rws B r T vs ls) k → ∃ o,A[k]? = some o ∧ o.isCells = true
 | [],_,_,_,h => h.elim
 | _ :: _,[],_,_,h => h.elim
 | v :: vs,l :: ls,⟨h1,_,h3⟩,k,hk => by
   rcases hk with hk | hk
   · have hlt := h1.1.lt k hk
     exact ⟨_,Array.getElem?_eq_getElem hlt,h1.1.isc hk (Array.getElem?_eq_getElem hlt)⟩
   · exact rows_cells h3 k hk
theorem le_none {F G : PH} {k : Nat} (h : F.le G) (hk : G k = none) : F k = none := by
 cases h1 : F k with
 | none => rfl
 | some o => rw [h k o h1] at hk; cases hk
theorem rows_down (hr : ∀ (a : α) (g : Nat → Value),r.ok G a g → r.ok F a g) (hl : F.le G) : ∀ {vs : List Value} {ls : List (List α)},Ok G A (rws B r T vs ls) → Ok F A (rws B r T vs ls)
 | [],_,_ => trivial
 | _ :: _,[],_ => trivial
 | v :: vs,l :: ls,⟨h1,h2,h3⟩ => by
   obtain ⟨⟨xs,o1,o2,o3⟩,h4⟩ := h1
   exact ⟨⟨⟨xs,o1,fun k hk => le_none hl (o2 k hk),fun i hi => hr _ _ (o3 i hi)⟩,h4⟩,h2,rows_down hr hl h3⟩
theorem mat_out (h : (gl B rV To (.slice (some ⟨go,0,none⟩) m m) vs).sat F A) : ∃ cur,A[go]? = some (.cells cur To (0,0)) ∧ cur.toList = vs := by
 obtain ⟨⟨xs,o1,o2,o3⟩,_⟩ := h
 rcases o1.2 with ⟨h1,_⟩ | ⟨g,cap,cur,e1,f1,f2,f3,f4,f5,f6⟩
 · cases h1
 · injection e1 with e1 e2 e3
   injection e1 with e1
   injection e1 with e1
   subst e1; subst e2; subst e3
   refine ⟨cur,f2,?_⟩
   have hsz : rV.sz = 1 := rfl
   rw [hsz] at f5 f6
   rw [Nat.mul_one] at f5 f6
   rw [List.take_of_length_le (by simp [f5])] at f6
   rw [f6]
   have hl : xs.length = vs.length := by have := o1.1; rw [hsz,Nat.mul_one] at this; exact this
   refine List.ext_getElem hl fun i h1 h2 => ?_
   have h3 := (o3 i h2).1
   have h4 : xs.getD (i * 1 + 0) undef = vs[i] := h3
   rw [Nat.mul_one,Nat.add_zero,List.getD_eq_getElem?_getD,List.getElem?_eq_getElem h1] at h4
   exact h4
theorem mat_ow {s : List Value × List (List α)} (hs : s.1.length = s.2.length) (h : Ok F A (Lm a Ta va b Tb vb B r T To go m s)) (k : Nat) : Own (Lm a Ta va b Tb vb B r T To go m s) k ↔ OwM a b go A k := by
 obtain ⟨_,_,_,_,_,_,h4,_,_⟩ := h
 obtain ⟨cur,h5,h6⟩ := mat_out h4
 have e : Own (Lm a Ta va b Tb vb B r T To go m s) k ↔ k = a ∨ k = b ∨ Own (rws B r T s.1 s.2) k ∨ some go = some k ∨ False := Iff.rfl
 rw [e,own_rws hs]
 unfold OwM
 rw [h5]
 constructor
 · rintro (h | h | h | h | h)
   · exact .inl h
   · exact .inr (.inl h)
   · obtain ⟨v,h7,h8⟩ := h
     exact .inr (.inr (.inr ⟨cur,To,rfl,v,by rw [h6]; exact h7,h8⟩))
   · injection h with h; exact .inr (.inr (.inl h.symm))
   · exact h.elim
 · rintro (h | h | h | ⟨cur',E,h7,v,h8,h9⟩)
   · exact .inl h
   · exact .inr (.inl h)
   · exact .inr (.inr (.inr (.inl (by rw [h]))))
   · injection h7 with h7
     injection h7 with h7
     subst h7
     exact .inr (.inr (.inl ⟨v,by rw [← h6]; exact h8,h9⟩))
theorem mat_oc {s : List Value × List (List α)} (h : Ok F A (Lm a Ta va b Tb vb B r T To go m s)) (k : Nat) (hk : Own (Lm a Ta va b Tb vb B r T To go m s) k) : ∃ o,A[k]? = some o ∧ o.isCells = true := by
 obtain ⟨h1,_,h2,_,h3,_,h4,_,_⟩ := h
 rcases hk with hk | hk | hk | hk | hk
 · have hk' : k = a := hk
   subst hk'; exact ⟨_,h1.1,rfl⟩
 · have hk' : k = b := hk
   subst hk'; exact ⟨_,h2.1,rfl⟩
 · exact rows_cells h3 k hk
 · obtain ⟨cur,h5,_⟩ := mat_out h4
   have hk' : some go = some k := hk
   injection hk' with hk'
   subst hk'; exact ⟨_,h5,rfl⟩
 · exact hk.elim
theorem mat_od {s : List Value × List (List α)} (hr : ∀ (F G : PH) (a : α) (g : Nat → Value),r.ok G a g → r.ok F a g) (hl : F.le G) (h : Ok G A (Lm a Ta va b Tb vb B r T To go m s)) : Ok F A (Lm a Ta va b Tb vb B r T To go m s) := by
 obtain ⟨h1,p1,h2,p2,h3,p3,h4,p4,_⟩ := h
 obtain ⟨⟨xs,o1,o2,o3⟩,o4⟩ := h4
 exact ⟨⟨h1.1,le_none hl h1.2⟩,p1,⟨h2.1,le_none hl h2.2⟩,p2,rows_down (hr F G) hl h3,p3,⟨⟨xs,o1,fun k hk => le_none hl (o2 k hk),fun i hi => o3 i hi⟩,o4⟩,p4,trivial⟩
end
section
variable {α : Type} {r : Rp α} {T To E : TypeId} {B go a b m' : Nat} {va vb v : Value} {vs : List Value} {ls : List (List α)} {l : List α} {Ta Tb : TypeId} {ro : Option Nat} {m : Nat} {c : Code}
theorem mat_go {s : List Value × List (List α)} (h : Ok F A (Lm a Ta va b Tb vb B r T To go m' s)) : go < A.size := by
 obtain ⟨_,_,_,_,_,_,h4,_,_⟩ := h
 obtain ⟨cur,h5,_⟩ := mat_out h4
 exact (Array.getElem?_eq_some_iff.1 h5).1
end
theorem rI_any {k : IntKind} (F G : PH) (a : Int) (g : Nat → Value) (h : (rI k).ok G a g) : (rI k).ok F a g := h
end Go.JE
namespace Go.Proofs.YtmfkkodnghambaaGreat
open Go.JE
theorem E185 : Ent Tryz.prog 185 := ⟨_,Tryz.func185,by kernel_rfl,by kernel_rfl⟩
theorem E190 : Ent Tryz.prog 190 := ⟨_,Tryz.func190,by kernel_rfl,by kernel_rfl⟩
theorem edges_ct {a0 : Value} {g : List (List Int)} : Tr Tryz.prog 185 #[a0] [dv (rL (rL (rI .i64))) a0 g] [] (fun g1 : Nat => .func (.func 190) #[] #[.pointer (some ⟨g1,0,none⟩)]) (fun _ => []) (fun _ g1 => [bx g1 125 [a0]]) := by
 refine jenter (args := [a0]) Tryz.func185 rfl rfl rfl fun w0 X => ?_
 refine jq (jr (jdq d0 fun q1 w1 => jbox Z w1.cells fun g1 => ja Z (jn (jx (jq (jr (js (jmf1 Z) (ja Z (jn ?_)))))))))
 refine jx (jrt ?_)
 exact jr1 Z Z g1 Z dn (fun _ _ => (kc k0 kn))
theorem preds_ct {a0 : Value} {g : List (List Int)} (hgn : g.length ≤ 512) : Td Tryz.prog 167 #[a0] [dv (rL (rL (rI .i64))) a0 g] [] (rL (rL (rI .i64))) (predsG g) := by
 refine jenterM (args := [a0]) Tryz.func167 rfl rfl rfl fun w0 X => ?_
 refine jq (jr (ja Z (jn (jx (jq (jr (jm Z (jdq d0 fun q1 w1 => js (jln U125 d0 Z) (jmk (m := (List.length g)) (r := rV) U125 I22 Z Z Z Z Z (by omega) (wV Z) Z fun g8 => jrn (r := (rI .i64)) (T := 3) (List.length g) ?_)))))))))
 refine jalc J125 Z fun g3 => jst k0 Z125 Z Z Z s0 (jn (jx (jq (jq (jr (jm Z (jc E185 Z Z edges_ct (dc d0 dn) kn (fun _ => p0) (fun _ => p1) fun g10 => jn (jx (jb ?_)))))))))
 refine crf (σ := List Value × List (List Int)) (α := Ed g.length) (go := g8) (xs := edgesX g) (encs := edEnc) (fun x => [(3,.pointer (some ⟨g3,0,none⟩)),(4,.int .i64 x.val.1),(5,.int .i64 x.val.2)]) (fun s => Lm g10 125 a0 g3 125 (.slice (some ⟨g8,0,none⟩) (List.length g) (List.length g)) X.n (rI .i64) 3 22 g8 (List.length g) s) (OwM g10 g3 g8) (fun pre s => s.2 = predsE g.length (pre.map Subtype.val) ∧ s.1.length = s.2.length) (List.replicate (List.length g) (.slice none 0 0),List.replicate (List.length g) []) rfl E190 (fun _ => rfl) rfl (fun _ s F A hi h => mat_ow hi.2 h) (fun _ s F A hi h => mat_oc h) (fun _ s F G A hi hl h => mat_od (fun F G => rI_any F G) hl h) (fun A B h k hk => hk.go h) (fun F H hin hd ho => ⟨edges_iter hin ho.1.1 hd.1 (fun A B h k hk => hk.go h) (mat_go ho) (fun k hk => ho.lt ((mat_ow (by simp) ho k).2 hk)) (fun k hk => ho.no ((mat_ow (by simp) ho k).2 hk)),mat_go ho⟩) ⟨rfl,by simp⟩ ?_ ?_ ?_
 intro lx x H9
 refine RCF.seq ?_
 refine RCF.region ?_
 refine LF.step (OpOk.assign rfl) ?_
 refine RLF.nil ?_
 refine RPF.next ?_
 refine RCF.region ?_
 refine LF.step (OpOk.assign rfl) ?_
 refine RLF.nil ?_
 exact PF.assigned ⟨rfl,rfl,rfl,trivial⟩
 rintro lx pre ⟨⟨pa,pb⟩,hpa,hpb⟩ ⟨vs,ls⟩ X2 ⟨hls,hvl⟩ hlt; dsimp only [Lm] at hpa hpb hls hvl ⊢
 have hll : ls.length = g.length := by rw [hls]; exact predsE_len _
 have hsm : (ls[pb.toNat]?.getD []).length ≤ 262144 := by rw [hls]; refine Nat.le_trans (predsE_le _) ?_; rw [List.length_map]; have := edgesX_few hgn; omega
 refine rb (rany false (.a 0 (.a 1 (.a 2 (.a 3 (.a 6 (.w 4 7 (.w 5 7 (.o 7 (.o 8 (.o 9 (.o 10 .e)))) (.o 5 (.o 8 (.o 9 (.o 10 .e))))) (.o 4 (.o 5 (.o 8 (.o 9 (.o 10 .e))))))))))) Mixed (by kernel_rfl) (kc k1 kn) (by kernel_rfl) fun F2 => jy Z (jl k0 O125 Z Z) (jy Z (jmv Z) (jy Z (jl k0 O125 Z Z) (jy Z (jmv Z) (jy Z (jmv Z) ?_)))))
 refine jyw Z Z ?_ ?_
 refine js (jig (i := (Int.toNat pb)) U125 Z22 k3 Z Z (by omega) (by omega)) (jyn d0 (kc k1 kn) ?_)
 refine jyw Z Z ?_ ?_
 refine js (jgW k3 (by omega) O22 Z) (jyn d0 (kc k1 kn) (jyo Z (jlit (r := (rI .i64)) (l := [pa]) U22 I3 (by decide) Z Z Z (lV Z Z (wI (wp (IntWalk.i64_in _ (by omega)))) ln) fun g20 => jyn d0 (kc k2 kn) (jyo Z (jfz k0 (by (try simp) <;> omega) (jro (Int.toNat pb) k2 (by omega) (by omega) (jgo k0 fun w9 => japl U22 I3 (by decide) Z k0 Z Z d0 (by (try simp) <;> omega) fun v21 w10 => jyn d1 (kc k3 kn) (jyo Z ?_))))))))
 refine js (jig (i := (Int.toNat pb)) U125 Z22 k4 Z Z (by omega) (by omega)) (jyn d0 (kc k3 kn) (jyo Z (jsg k4 Z Z22 Z Z w10.one (by omega) (wV w10.one) (jru k1 k1 (by omega) (by omega) (jyn d0 (kc k3 kn) (jyd ?_))))))
 exact rend (List.set vs (Int.toNat pb) v21,List.set ls (Int.toNat pb) ((List.getD ls (Int.toNat pb) []) ++ ([pa]))) ⟨by dsimp only; rw [hls,List.map_append]; exact (predsE_snoc (l := pre.map Subtype.val) (p := (pa,pb))).symm,by simp [hvl]⟩ (kc k2 (kc k2 (kd kn)))
 refine jlit (r := (rI .i64)) (l := [pa]) U22 I3 (by decide) Z Z Z (lV Z Z (wI (wp (IntWalk.i64_in _ (by omega)))) ln) fun g20 => jyn d0 (kc k2 kn) (jyo Z (js (jgW k4 (by omega) O22 Z) (jyn d0 (kc k2 kn) (jyo Z (jfz k0 (by (try simp) <;> omega) (jro (Int.toNat pb) k2 (by omega) (by omega) (jgo k0 fun w9 => japl U22 I3 (by decide) Z k0 Z Z d0 (by (try simp) <;> omega) fun v21 w10 => jyn d1 (kc k3 kn) (jyo Z ?_))))))))
 refine js (jig (i := (Int.toNat pb)) U125 Z22 k4 Z Z (by omega) (by omega)) (jyn d0 (kc k3 kn) (jyo Z (jsg k4 Z Z22 Z Z w10.one (by omega) (wV w10.one) (jru k1 k1 (by omega) (by omega) (jyn d0 (kc k3 kn) (jyd ?_))))))
 exact rend (List.set vs (Int.toNat pb) v21,List.set ls (Int.toNat pb) ((List.getD ls (Int.toNat pb) []) ++ ([pa]))) ⟨by dsimp only; rw [hls,List.map_append]; exact (predsE_snoc (l := pre.map Subtype.val) (p := (pa,pb))).symm,by simp [hvl]⟩ (kc k2 (kc k2 (kd kn)))
 refine jlit (r := (rI .i64)) (l := [pa]) U22 I3 (by decide) Z Z Z (lV Z Z (wI (wp (IntWalk.i64_in _ (by omega)))) ln) fun g20 => jyn d0 (kc k2 kn) (jyo Z (js (jig (i := (Int.toNat pb)) U125 Z22 k4 Z Z (by omega) (by omega)) (jyn d0 (kc k2 kn) (jyo Z (js (jgW k4 (by omega) O22 Z) (jyn d0 (kc k2 kn) (jyo Z (jfz k0 (by (try simp) <;> omega) (jro (Int.toNat pb) k2 (by omega) (by omega) (jgo k0 fun w9 => ?_))))))))))
 refine japl U22 I3 (by decide) Z k0 Z Z d0 (by (try simp) <;> omega) fun v21 w10 => jyn d1 (kc k3 kn) (jyo Z (js (jig (i := (Int.toNat pb)) U125 Z22 k4 Z Z (by omega) (by omega)) (jyn d0 (kc k3 kn) (jyo Z (jsg k4 Z Z22 Z Z w10.one (by omega) (wV w10.one) (jru k1 k1 (by omega) (by omega) (jyn d0 (kc k3 kn) (jyd ?_))))))))
 exact rend (List.set vs (Int.toNat pb) v21,List.set ls (Int.toNat pb) ((List.getD ls (Int.toNat pb) []) ++ ([pa]))) ⟨by dsimp only; rw [hls,List.map_append]; exact (predsE_snoc (l := pre.map Subtype.val) (p := (pa,pb))).symm,by simp [hvl]⟩ (kc k2 (kc k2 (kd kn)))
 rintro M9 ⟨vs,ls⟩ ⟨hls,hvl⟩ hMX; dsimp only [Lm] at hls hvl ⊢
 rw [edgesX_val] at hls; have hls0 : ls = predsG g := hls
 have hll : ls.length = g.length := by rw [hls]; exact predsE_len _
 refine jbn (jx (jq (jr (js (jl k2 O125 Z Z) (ja Z (jn (jx (jrt ?_))))))))
 refine qfr k4 k3 hvl (by omega) (fun l hl => by rw [hls] at hl; exact predsE_small hgn l hl) ?_
 exact jrM Z Z k0 ((.slice (some ⟨g8,0,none⟩) (List.length g) (List.length g)) : Value) Z (by rw [← hls0]; exact (dc d0 dn)) (fun _ _ => kn) hMX
theorem E166 : Ent Tryz.prog 166 := ⟨_,Tryz.func166,by kernel_rfl,by kernel_rfl⟩
theorem E167 : Ent Tryz.prog 167 := ⟨_,Tryz.func167,by kernel_rfl,by kernel_rfl⟩
theorem E186 : Ent Tryz.prog 186 := ⟨_,Tryz.func186,by kernel_rfl,by kernel_rfl⟩
theorem idom_ct {a0 : Value} {g : List (List Int)} (hn : 0 < g.length ∧ g.length ≤ 512) (hw : ∀ b,b < g.length → ∃ w,RB (fun q t => (t : Int) ∈ ix (cleanM g) q) w b) : Tr Tryz.prog 168 #[a0] [dv (rL (rL (rI .i64))) a0 g] [] (fun c : Value × List Int => c.1) (fun c => [dv (rL (rI .i64)) c.1 c.2,pu (DomG g c.2)]) (fun _ _ => []) := by
 refine jenter (args := [a0]) Tryz.func168 rfl rfl rfl fun w0 X => ?_
 refine jq (jr (ja Z (jn (jx (jq (jr (jm Z (jc E166 Z Z (order_ct hn hw) (dc d0 dn) kn (fun _ => p2) (fun _ => p0) fun c17 => jpu d1 fun hod => ja Z (jn ?_)))))))))
 refine jx (jq (jr (jm Z (jdq d2 fun q3 w3 => js (jln U125 d2 Z) (jmk (m := (List.length g)) (r := (rI .i64)) U22 I3 Z Z Z Z Z (by omega) (wI (wp (by decide))) Z fun g20 => ja Z (jn (jx (jq (jr ?_)))))))))
 refine jm Z (js (jln U125 d2 Z) (jmk (m := (List.length g)) (r := (rI .i64)) U22 I3 Z Z Z Z Z (by omega) (wI (wp (by decide))) Z fun g23 => ja Z (jn (jx (jq (jq (jr (jm Z (js (jln U125 d2 Z) (jm Z ?_))))))))))
 refine jn (jx (jb ?_))
 refine jlp (u3 fun (k : Nat) (nm : List Int) (ou : List Int) => ⟨k ≤ g.length ∧ nm.length = g.length ∧ ou = List.replicate k (-1) ++ List.replicate (g.length - k) 0,[dv (rL (rI .i64)) c17.1 c17.2,dv (rL (rL (rI .i64))) a0 g],[gl X.n (rI .i64) 3 (.slice (some ⟨g23,0,none⟩) (List.length g) (List.length g)) ou,gl X.n (rI .i64) 3 (.slice (some ⟨g20,0,none⟩) (List.length g) (List.length g)) nm],[(0,a0),(2,.slice none 0 0),(3,c17.1),(4,(.slice (some ⟨g20,0,none⟩) (List.length g) (List.length g))),(5,(.slice (some ⟨g23,0,none⟩) (List.length g) (List.length g))),(25,.int .i64 (↑(List.length g))),(26,.int .i64 (↑k))],g.length - k⟩) (0,List.replicate (List.length g) 0,List.replicate (List.length g) 0) ⟨by dsimp only; omega,by simp,by simp⟩ (dc d0 (dc d2 dn)) (kd kn) ⟨Z,Z,Z,Z,Z,Z,eqI (by omega),trivial⟩ ?_
 rintro ⟨k,nm,ou⟩; dsimp only [u3]; rintro ⟨hk,hnl,hou⟩
 have hol : ou.length = g.length := by rw [hou]; simp; omega
 refine jq (jr (js (jlss Z Z) (jn (jx (jq ?_)))))
 refine jif Z (fun hc1 => ?_) (fun hc1 => ?_)
 refine jsk (jx (jq (jb (jq (jr (jm Z (ja Z (jn (jx (jr (jm Z ?_)))))))))))
 refine jm Z (jm Z (jm Z (js (jig U22 Z3 k1 Z Z Z (by omega)) (jsg k1 Z Z3 Z Z Z (by omega) (wI (wl (-1))) (js (jig U22 Z3 k1 Z Z Z (by omega)) (jsg k1 Z Z3 Z Z Z (by omega) (wI (wl (-1))) (jn (jbn (jx (jr (js (jadd Z Z (by omega)) ?_)))))))))))
 refine jm Z (jn ?_)
 exact jag (k + 1,List.set nm k (-1),List.set ou k (-1)) ⟨by dsimp only; omega,by simpa using hnl,by dsimp only; rw [hou]; exact fill_put (by omega)⟩ (dc d0 (dc d1 dn)) (kd kn) ⟨Z,Z,Z,Z,Z,Z,eqI (by omega),trivial⟩
 refine jex (jtx (jtx (jbh (jx (jq (jq (jr (jm Z (jdq d0 fun q4 w4 => js (jln U22 d0 Z) (jm Z ?_))))))))))
 refine jn (jx (jb ?_))
 refine jlp (u2 fun (k2 : Nat) (nm : List Int) => ⟨k2 ≤ c17.2.length ∧ NK g.length c17.2 nm k2,[dv (rL (rI .i64)) c17.1 c17.2,dv (rL (rL (rI .i64))) a0 g],[gl X.n (rI .i64) 3 (.slice (some ⟨g23,0,none⟩) (List.length g) (List.length g)) ou,gl X.n (rI .i64) 3 (.slice (some ⟨g20,0,none⟩) (List.length g) (List.length g)) nm],[(0,a0),(2,.slice none 0 0),(3,c17.1),(4,(.slice (some ⟨g20,0,none⟩) (List.length g) (List.length g))),(5,(.slice (some ⟨g23,0,none⟩) (List.length g) (List.length g))),(36,c17.1),(37,.int .i64 (↑(List.length c17.2))),(38,.int .i64 (↑k2))],c17.2.length - k2⟩) (0,nm) ⟨by dsimp only; omega,⟨by dsimp only; exact hnl,fun j h => absurd h (Nat.not_lt_zero _)⟩⟩ (dc d0 (dc d1 dn)) (kd kn) ⟨Z,Z,Z,Z,Z,Z,Z,eqI (by omega),trivial⟩ ?_
 rintro ⟨k2,nm⟩; dsimp only [u2]; rintro ⟨hk2,hnk⟩
 have hnl2 := hnk.1
 refine jq (jr (js (jlss Z Z) (jn (jx (jq ?_)))))
 refine jif Z (fun hc2 => ?_) (fun hc2 => ?_)
 have hr8 := od_rng hod (k := k2) (by omega)
 refine jsk (jx (jq (jb (jq (jr (jm Z (js (jix U22 Z3 d0 Z Z Z (by omega)) (js (jlI (dix d0 k2 (by omega)) O3 Z) (ja Z (ja Z (jn ?_)))))))))))
 refine jx (jr (jm Z (jm Z (jm Z (js (jig (i := (Int.toNat (ix c17.2 k2))) U22 Z3 k1 Z Z (by omega) (by omega)) (jsg k1 Z Z3 Z Z Z (by omega) (wI (wp (IntWalk.i64_in _ (by omega)))) (jn (jbn (jx (jr (js (jadd Z Z (by omega)) ?_)))))))))))
 refine jm Z (jn ?_)
 exact jag (k2 + 1,List.set nm (Int.toNat (ix c17.2 k2)) ((k2 : Nat) : Int)) ⟨by dsimp only; omega,hnk.nx hod (by omega)⟩ (dc d0 (dc d1 dn)) (kc k1 (kc k0 kn)) ⟨Z,Z,Z,Z,Z,Z,Z,eqI (by omega),trivial⟩
 refine jex (jtx (jtx (jbh (jx (jq (jr (jfz k1 (by omega) ?_)))))))
 have hnu : NU g.length c17.2 nm := ⟨hnk.1,fun j h => hnk.2 j (by omega)⟩
 have hgn := (hod.gn hn.1 hnu).1
 have hfull := od_full hod
 have hlen9 := od_len hod
 have hpl := preds_len g
 refine jm Z (jcd E167 Z Z (preds_ct hn.2) (dc d2 dn) kn fun v49 q6 w6 => ja Z (jn (jx (jq (jq (jr (ja Z (jn (jx (jb ?_))))))))))
 refine jlp (u3 fun (f : Nat) (ch : Bool) (ou : List Int) => ⟨IS g.length nm (prG g) ou 1 ∧ (ch = false → IS g.length nm (prG g) ou (g.length : Int)) ∧ smI g.length nm ou g.length + (if ch = true then 1 else 0) ≤ f,[dv (rL (rL (rI .i64))) v49 (predsG g),dv (rL (rI .i64)) (.slice (some ⟨g20,0,none⟩) (List.length g) (List.length g)) nm,dv (rL (rI .i64)) c17.1 c17.2],[gl X.n (rI .i64) 3 (.slice (some ⟨g23,0,none⟩) (List.length g) (List.length g)) ou],[(2,.slice none 0 0),(3,c17.1),(4,(.slice (some ⟨g20,0,none⟩) (List.length g) (List.length g))),(5,(.slice (some ⟨g23,0,none⟩) (List.length g) (List.length g))),(9,v49),(10,.bool ch)],f⟩) (smI g.length nm ou g.length + 1,true,ou) ⟨by dsimp only; rw [hou]; exact (by have h9 := IS.beg hgn; rw [show g.length - k = 0 by omega]; simpa [show k = g.length by omega] using h9),(fun h => by cases h),by dsimp only; rw [if_pos rfl]; exact Nat.le_refl _⟩ (dc d0 (dc d1 (dc d2 dn))) (kc k0 kn) ⟨Z,Z,Z,Z,Z,Z,trivial⟩ ?_
 rintro ⟨f,ch,ou⟩; dsimp only [u3]; rintro ⟨his,hid,hfu⟩
 have hol := his.tv.len
 refine jq (jq (jr (jm Z (jn (jx ?_)))))
 refine jif Z (fun hc3 => ?_) (fun hc3 => ?_)
 have hf0 : 0 < f := by rw [hc3] at hfu; simp at hfu; omega
 refine jsk (jx (jb (jq (jr (ja Z (jn (jx (jq (jr (jm Z (jm Z ?_)))))))))))
 refine js (jln U22 d2 Z) (js (jmin Z Z) (js (jslo (lo := (Int.toNat (min 1 (↑(List.length c17.2))))) U22 Z3 d2 Z Z (by omega) (by omega)) (jdq (dlo d2 (Int.toNat (min 1 (↑(List.length c17.2)))) (by omega) (by omega)) fun q8 w8 => js (jln U22 (dlo d2 (Int.toNat (min 1 (↑(List.length c17.2)))) (by omega) (by omega)) Z) (jm Z (jn (jx (jb ?_)))))))
 refine jlp (u3 fun (k : Nat) (ch2 : Bool) (ou2 : List Int) => ⟨k ≤ c17.2.length - 1 ∧ IR g.length nm (prG g) ou ou2 ch2 k,[dv (rL (rL (rI .i64))) v49 (predsG g),dv (rL (rI .i64)) (.slice (some ⟨g20,0,none⟩) (List.length g) (List.length g)) nm,dv (rL (rI .i64)) c17.1 c17.2],[gl X.n (rI .i64) 3 (.slice (some ⟨g23,0,none⟩) (List.length g) (List.length g)) ou2],[(2,.slice none 0 0),(3,c17.1),(4,(.slice (some ⟨g20,0,none⟩) (List.length g) (List.length g))),(5,(.slice (some ⟨g23,0,none⟩) (List.length g) (List.length g))),(9,v49),(10,.bool ch2),(55,(resl 1 c17.1 (Int.toNat (min 1 (↑(List.length c17.2)))) (List.length c17.2))),(56,.int .i64 (↑(List.length (List.drop (Int.toNat (min 1 (↑(List.length c17.2)))) c17.2)))),(57,.int .i64 (↑k))],c17.2.length - 1 - k⟩) (0,false,ou) ⟨by dsimp only; omega,⟨his,Nat.le_refl _,fun h => by cases h⟩⟩ (dc d0 (dc d1 (dc d2 dn))) (kc k0 kn) ⟨Z,Z,Z,Z,Z,Z,Z,Z,eqI (by omega),trivial⟩ ?_
 rintro ⟨k,ch2,ou2⟩; dsimp only [u3]; rintro ⟨hk4,hir⟩
 have hol2 := hir.is.tv.len
 have hdl : (List.drop (min 1 (c17.2.length : Int)).toNat c17.2).length = c17.2.length - 1 := by rw [List.length_drop]; omega
 refine jq (jr (js (jlss Z Z) (jn (jx (jq ?_)))))
 refine jif Z (fun hc4 => ?_) (fun hc4 => ?_)
 refine jsk (jx (jq (jb (jq (jr (js (jix U22 Z3 (dlo d2 (Int.toNat (min 1 (↑(List.length c17.2)))) (by omega) (by omega)) Z Z Z (by omega)) (js (jlI (dix (dlo d2 (Int.toNat (min 1 (↑(List.length c17.2)))) (by omega) (by omega)) k (by omega)) O3 Z) (ja Z (jn (jx (jq ?_)))))))))))
 refine jr (ja Z (jn (jx (jq (jq (jr ?_))))))
 generalize hb : ix (List.drop (Int.toNat (min 1 (↑(List.length c17.2)))) c17.2) k = b at ⊢
 have hbe : b = ix c17.2 (k + 1) := by rw [← hb,ix_drop9]; congr 1; omega
 have hbr := od_rng hod (k := k + 1) (by omega)
 rw [← hbe] at hbr
 have hbn : ix nm b.toNat = ((k + 1 : Nat) : Int) := by rw [hbe]; exact hnu.pos (k + 1) (by omega)
 have hb0 : b.toNat ≠ 0 := fun h => by rw [h,hgn.zero] at hbn; omega
 refine jm Z (jm Z (js (jix (i := (Int.toNat b)) U125 Z22 d0 Z Z (by omega) (by omega)) (jev (jlV (dix d0 (Int.toNat b) (by omega)) O22 Z Z) fun v64 q9 w9 => js (jln U22 d0 Z) (jm Z (jn (jx (jb ?_)))))))
 refine jlp (u2 fun (j : Nat) (best : Int) => ⟨S9 g.length ou2 (ix (predsG g) (Int.toNat b)) j best,[dv (rL (rI .i64)) v64 (ix (predsG g) (Int.toNat b)),dv (rL (rL (rI .i64))) v49 (predsG g),dv (rL (rI .i64)) (.slice (some ⟨g20,0,none⟩) (List.length g) (List.length g)) nm,dv (rL (rI .i64)) c17.1 c17.2],[gl X.n (rI .i64) 3 (.slice (some ⟨g23,0,none⟩) (List.length g) (List.length g)) ou2],[(2,.slice none 0 0),(3,c17.1),(4,(.slice (some ⟨g20,0,none⟩) (List.length g) (List.length g))),(5,(.slice (some ⟨g23,0,none⟩) (List.length g) (List.length g))),(9,v49),(10,.bool ch2),(12,.int .i64 b),(13,.int .i64 best),(55,(resl 1 c17.1 (Int.toNat (min 1 (↑(List.length c17.2)))) (List.length c17.2))),(56,.int .i64 (↑(List.length (List.drop (Int.toNat (min 1 (↑(List.length c17.2)))) c17.2)))),(57,.int .i64 (↑k)),(64,v64),(65,.int .i64 (↑(List.length (ix (predsG g) (Int.toNat b))))),(66,.int .i64 (↑j))],(ix (predsG g) (Int.toNat b)).length - j⟩) (0,-1) ⟨by dsimp only; omega,BS.beg,by dsimp only; omega,by dsimp only; omega⟩ (dc d0 (dc d1 (dc d2 (dc d3 dn)))) (kc k0 kn) ⟨Z,Z,Z,Z,Z,Z,Z,eqI (by omega),Z,Z,Z,Z,Z,eqI (by omega),trivial⟩ ?_
 rintro ⟨j,best⟩; dsimp only [u2]; rintro ⟨hj,hbs,hb1,hb2⟩
 have hs9 : S9 g.length ou2 (ix (predsG g) (Int.toNat b)) j best := ⟨hj,hbs,hb1,hb2⟩
 refine jq (jr (js (jlss Z Z) (jn (jx (jq ?_)))))
 refine jif Z (fun hc5 => ?_) (fun hc5 => ?_)
 refine jsk (jx (jq (jb (jq (jr (js (jix U22 Z3 d0 Z Z Z (by omega)) (js (jlI (dix d0 j (by omega)) O3 Z) (ja Z (jn (jx (jq ?_)))))))))))
 refine jq (jr ?_)
 generalize ha : ix (ix (predsG g) (Int.toNat b)) j = a at ⊢
 have har := preds_rng (ix_mem (l := ix (predsG g) b.toNat) (i := j) (by omega))
 rw [ha] at har
 refine jm Z (jm Z (jdq d2 fun q11 w11 => js (jix (i := (Int.toNat a)) U22 Z3 d2 Z Z (by omega) (by omega)) (js (jlI (dix d2 (Int.toNat a) (by omega)) O3 Z) (js (jlss Z Z) (jm Z (jg Z Z (.f _) (fun hg => jmv Z) (jg Z Z (.f _) (fun hg => jneq (evg Z hg) Z) (jg Z Z (.f _) (fun hg => jmv (evg Z hg)) (jg Z Z (.gt _ _) (fun hg => jmv Z) (jg Z Z (.gt _ _) (fun hg => jmv Z) ?_))))))))))
 refine jg Z Z (.gt _ _) (fun hg => jig (i := (Int.toNat a)) U22 Z3 k0 (evg Z hg) (evg Z hg) (by first | omega | (simp at hg; omega)) (by first | omega | (simp at hg; omega) | (simp only [List.length_set]; omega) | (simp; done))) (jg Z Z (.gt _ _) (fun hg => jgI k0 (by first | omega | (simp at hg; omega) | (simp only [List.length_set]; omega) | (simp; done)) O3 (evg Z hg)) (jg Z Z (.gt _ _) (fun hg => jlss (evg Z hg) Z) (jg Z Z (.f _) (fun hg => jand2 hg Z Z) (js (jor Z Z) (jn (jx ?_))))))
 refine jif Z (fun hc6 => ?_) (fun hc6 => ?_)
 refine jex (jtx (jbh (jx (jr (js (jadd Z Z (by omega)) (jm Z (jn ?_)))))))
 exact jag (j + 1,best) (s9_skip hgn hir.is hs9 ha har (by omega) (by simpa using hc6)) (dc d0 (dc d1 (dc d2 (dc d3 dn)))) (kc k0 kn) ⟨Z,Z,Z,Z,Z,Z,Z,Z,Z,Z,Z,Z,Z,eqI (by omega),trivial⟩
 have hca : ¬ a = 0 → 0 ≤ ix ou2 a.toNat := by simp at hc6; exact fun h => hc6.2.resolve_left h
 refine jsk (jx (jq (jq (jr (jm Z (js (jlss Z Z) (jn (jx ?_))))))))
 refine jif Z (fun hc7 => ?_) (fun hc7 => ?_)
 refine jq (jr (jm Z (ja Z (jn (jx (jex (jtx (jbh (jx (jr (js (jadd Z Z (by omega)) ?_)))))))))))
 refine jm Z (jn ?_)
 exact jag (j + 1,a) (s9_first hir.is hs9 ha har (by omega) hca hc7) (dc d0 (dc d1 (dc d2 (dc d3 dn)))) (kc k0 kn) ⟨Z,Z,Z,Z,Z,Z,Z,eqI (by omega),Z,Z,Z,Z,Z,eqI (by omega),trivial⟩
 refine jsk (jx (jr (jm Z (jm Z (jm Z (jm Z (jc E186 Z Z (Tv.temp 1073741824 (common_ct best a (s9_ok hgn hnl2 hir.is hs9 har hca (by omega))) (by omega)) (dc d2 dn) (kc k0 kn) (fun _ => p0) (fun _ => p1) fun _ => ja Z (jn (jbn (jx ?_))))))))))
 refine jr (js (jadd Z Z (by omega)) (jm Z (jn ?_)))
 exact jag (j + 1,comM ou2 nm best a) (s9_com hgn hir.is hs9 ha har (by omega) hca (by omega)) (dc d0 (dc d1 (dc d2 (dc d3 dn)))) (kc k0 kn) ⟨Z,Z,Z,Z,Z,Z,Z,eqI (by omega),Z,Z,Z,Z,Z,eqI (by omega),trivial⟩
 refine jex (jtx (jtx (jbh (jx (jq (jr (jm Z (jm Z (js (jig (i := (Int.toNat b)) U22 Z3 k0 Z Z (by omega) (by omega)) (js (jgI k0 (by omega) O3 Z) (jm Z ?_)))))))))))
 refine js (jneq Z Z) (jn (jx ?_))
 refine jif Z (fun hc8 => ?_) (fun hc8 => ?_)
 refine jr (jm Z (jm Z (jm Z (js (jig (i := (Int.toNat b)) U22 Z3 k0 Z Z (by omega) (by omega)) (jsg k0 Z Z3 Z Z Z (by omega) (wI (wp (IntWalk.i64_in _ (by omega)))) (ja Z (jn (jbn (jx (jr (js (jadd Z Z (by omega)) ?_)))))))))))
 refine jm Z (jn ?_)
 exact jag (k + 1,true,List.set ou2 (Int.toNat b) best) ⟨by dsimp only; omega,hir.set hgn (by omega) hb0 hbn (hs9.all (by omega)) hc8⟩ (dc d1 (dc d2 (dc d3 dn))) (kc k0 kn) ⟨Z,Z,Z,Z,Z,Z,Z,Z,eqI (by omega),trivial⟩
 refine jsk (jbn (jx (jr (js (jadd Z Z (by omega)) (jm Z (jn ?_))))))
 exact jag (k + 1,ch2,ou2) ⟨by dsimp only; omega,hir.keep hgn (by omega) hb0 hbn (hs9.all (by omega)) (by omega)⟩ (dc d1 (dc d2 (dc d3 dn))) (kc k0 kn) ⟨Z,Z,Z,Z,Z,Z,Z,Z,eqI (by omega),trivial⟩
 refine jex (jtx (jtx (jbh (jbn ?_))))
 exact jag (f - 1,ch2,ou2) ⟨(hir.is.end9 (by omega)).round hgn,fun _ => hir.is.end9 (by omega),by have h8 := hir.le; have h9 := hir.lt; have hf9 := hfu; rw [if_pos hc3] at hf9; dsimp only; cases ch2 <;> simp at h9 ⊢ <;> omega⟩ (dc d0 (dc d1 (dc d2 dn))) (kc k0 kn) ⟨Z,Z,Z,Z,Z,Z,trivial⟩
 refine jex (jtx (jtx (jbh (jx (jq (jr (jm Z (ja Z (jn (jx (jrt ?_)))))))))))
 refine qfz k0 (by omega) ?_
 exact jr1 Z Z ((.slice (some ⟨g23,0,none⟩) (List.length g) (List.length g)),ou) Z (dc d0 (dc (wpu ((hid (by simpa using hc3)).dg hgn)) dn)) (fun _ _ => kn)
end Go.Proofs.YtmfkkodnghambaaGreat
namespace Go.JE
variable {P : Program} {D D0 : List Dt} {L M Ls L0 : List Res} {e : Env} {X : Cx} {n : Fs} {w0 : World} {Q : Exit → Act → World → Prop}
variable {ops : Array Oper} {op : Op} {d : Nat} {ty : TypeId} {pos : String} {af : Array Edge} {rest : List Oper} {T T' K E : TypeId} {x y z : Operand} {g : Nat} {l : List (Int × Value)} {k : Int} {v u : Value} {b : Bool}
theorem jlkoN (hT : P.underlying T = some (.map K E)) (hK : P.underlying K = some (.int .i64)) (hz : (P.info? E).bind (·.zero) = some u) (hm : Tk L (im g l) M) (hx : ev e x = some (.map (some g))) (hi : ev e z = some (.int .i64 k)) (hl : lkM l k = none) : OH P D L e (.lookup T x z true) (.tuple #[u,.bool false]) := by
 have := jlko (D := D) hT hK hz hm hx hi
 rw [hl] at this; exact this
theorem jlkoS (hT : P.underlying T = some (.map K E)) (hK : P.underlying K = some (.int .i64)) (hz : (P.info? E).bind (·.zero) = some u) (hm : Tk L (im g l) M) (hx : ev e x = some (.map (some g))) (hi : ev e z = some (.int .i64 k)) (hl : lkM l k = some v) : OH P D L e (.lookup T x z true) (.tuple #[v,.bool true]) := by
 have := jlko (D := D) hT hK hz hm hx hi
 rw [hl] at this; exact this
end Go.JE
namespace Go.Proofs.YtmfkkodnghambaaGreat
open Go.JE
abbrev U177 := @Tryz.underlying177
abbrev U213 := @Tryz.underlying213
theorem E113 : Ent Tryz.prog 113 := ⟨_,Tryz.func113,by kernel_rfl,by kernel_rfl⟩
theorem E114 : Ent Tryz.prog 114 := ⟨_,Tryz.func114,by kernel_rfl,by kernel_rfl⟩
theorem E161 : Ent Tryz.prog 161 := ⟨_,Tryz.func161,by kernel_rfl,by kernel_rfl⟩
theorem E162 : Ent Tryz.prog 162 := ⟨_,Tryz.func162,by kernel_rfl,by kernel_rfl⟩
theorem E163 : Ent Tryz.prog 163 := ⟨_,Tryz.func163,by kernel_rfl,by kernel_rfl⟩
theorem E164 : Ent Tryz.prog 164 := ⟨_,Tryz.func164,by kernel_rfl,by kernel_rfl⟩
theorem E179 : Ent Tryz.prog 179 := ⟨_,Tryz.func179,by kernel_rfl,by kernel_rfl⟩
theorem E180 : Ent Tryz.prog 180 := ⟨_,Tryz.func180,by kernel_rfl,by kernel_rfl⟩
theorem F179_0 : Fld Tryz.prog 179 0 0 := ⟨_,_,Tryz.underlying179,rfl,rfl,2,(by unfold Sz; kernel_rfl),by decide⟩
theorem F179_1 : Fld Tryz.prog 179 1 2 := ⟨_,_,Tryz.underlying179,rfl,rfl,1,(by unfold Sz; kernel_rfl),by decide⟩
theorem F211_0 : Fld Tryz.prog 211 0 0 := ⟨_,_,Tryz.underlying211,rfl,rfl,1,(by unfold Sz; kernel_rfl),by decide⟩
theorem F211_1 : Fld Tryz.prog 211 1 1 := ⟨_,_,Tryz.underlying211,rfl,rfl,1,(by unfold Sz; kernel_rfl),by decide⟩
theorem F211_2 : Fld Tryz.prog 211 2 2 := ⟨_,_,Tryz.underlying211,rfl,rfl,1,(by unfold Sz; kernel_rfl),by decide⟩
theorem F211_3 : Fld Tryz.prog 211 3 3 := ⟨_,_,Tryz.underlying211,rfl,rfl,1,(by unfold Sz; kernel_rfl),by decide⟩
theorem O177 : One Tryz.prog 177 := ⟨_,Tryz.underlying177,rfl⟩
theorem Z211 : Sz Tryz.prog 211 4 := by unfold Sz; kernel_rfl
theorem Z219 : Sz Tryz.prog 219 2 := by unfold Sz; kernel_rfl
theorem J211 : (Tryz.prog.info? 211).bind (·.zero) = some (.agg #[.int .i64 0,.int .i64 0,.int .i64 0,.int .i64 0]) := by kernel_rfl
theorem J219 : (Tryz.prog.info? 219).bind (·.zero) = some (.agg #[.int .i64 0,.int .i64 0]) := by kernel_rfl
theorem J67 : (Tryz.prog.info? 67).bind (·.zero) = some (.agg #[.int .i64 0,.int .i64 0,.int .i64 0,.slice none 0 0,.int .i32 0]) := by kernel_rfl
set_option maxRecDepth 4000
theorem must_ct (ok : Bool) (e : Int) (b : Int) (p : Int) (hok : ok = true) : Tr Tryz.prog 113 #[.bool ok,.int .i64 e,.int .i64 b,.int .i64 p] [] [] (fun _ : Unit => .tuple #[]) (fun _ => []) (fun _ _ => []) := by
 refine jenter (args := [.bool ok,.int .i64 e,.int .i64 b,.int .i64 p]) Tryz.func113 rfl rfl rfl fun w0 X => ?_
 refine jq (jr (jm Z (js (jnot Z) (jn (jx ?_)))))
 refine jif Z (fun hc1 => ?_) (fun hc1 => ?_)
 exact absurd hc1 (by rw [hok]; decide)
 refine jsk ?_
 exact jd0 Z () Z dn (fun _ _ => kn)
theorem kMake_ct {g0 gm : Nat} {cf : Value} {f : D.Func} {L : List (Int × Value)} (n : Int) (b : Int) (p : Int) (hok : withinM n f.Params 8191 = true) : Tr Tryz.prog 179 #[.pointer (some ⟨g0,0,none⟩),.int .i64 n,.int .i64 b,.int .i64 p] [da rFunc (vFunc f cf) f] [bx g0 179 [.int .i64 f.Params,cf,.map (some gm)],im gm L] (fun _ : Unit => .tuple #[]) (fun _ => []) (fun _ _ => [bx g0 179 [.int .i64 f.Params,cf,.map (some gm)],im gm L]) := by
 refine jenter (args := [.pointer (some ⟨g0,0,none⟩),.int .i64 n,.int .i64 b,.int .i64 p]) Tryz.func179 rfl rfl rfl fun w0 X => ?_
 refine jr (jm Z (jm Z (js (jnil Z) (js (jf F179_0 Z) (js (jf F49_0 Z) (js (jl k0 O3 Z Z) (jcv E114 Z Z (within_ct n f.Params 8191) dn kn (jm Z (jm Z (jc E113 Z Z (must_ct (withinM n f.Params 8191) 11 b p hok) dn kn (fun _ => p0) (fun _ => p0) fun _ => jn ?_))))))))))
 exact jd0 Z () Z dn (fun _ _ => (kd kn))
theorem kOnce_ct {g0 gm : Nat} {cf : Value} {f : D.Func} {L : List (Int × Value)} (n : Int) (b : Int) (p : Int) (hno : lkM L n = none) : Tr Tryz.prog 180 #[.pointer (some ⟨g0,0,none⟩),.int .i64 n,.int .i64 b,.int .i64 p] [da rFunc (vFunc f cf) f] [bx g0 179 [.int .i64 f.Params,cf,.map (some gm)],im gm L] (fun _ : Unit => .tuple #[]) (fun _ => []) (fun _ _ => [bx g0 179 [.int .i64 f.Params,cf,.map (some gm)],im gm (upM L n (wv b p))]) := by
 refine jenter (args := [.pointer (some ⟨g0,0,none⟩),.int .i64 n,.int .i64 b,.int .i64 p]) Tryz.func180 rfl rfl rfl fun w0 X => ?_
 refine jq (jr (jm Z (js (jnil Z) (js (jf F179_1 Z) (js (jl k0 O177 Z Z) (jm Z (js (jlkoN U177 U3 J219 k1 Z Z hno) (jm Z (js (jex' Z Z) (js (jex' Z Z) (jalc J219 Z fun g8 => ?_)))))))))))
 refine jsta k0 Z219 Z Z Z ⟨Z,Z,trivial⟩ (saf Z) (ja Z (jn (jx (jq (jr (jm Z (js (jnot Z) (jm Z (jm Z (jc E113 Z Z (must_ct (!false) 12 b p rfl) dn kn (fun _ => p0) (fun _ => p0) fun _ => jn ?_))))))))))
 refine jx (jr (jm Z (js (jnil Z) (js (jf F179_1 Z) (js (jl k1 O177 Z Z) (jm Z (jm Z (jm Z (js (jbu (v := .agg #[.int .i64 b,.int .i64 p]) Z (fun _ => by kernel_rfl)) (jup U177 U3 k2 Z Z Z Z (jn ?_)))))))))))
 exact jd0 Z () Z dn (fun _ _ => (kc k2 (kc k0 kn)))
theorem kAll_ct {g0 gm : Nat} {cf : Value} {f : D.Func} {L : List (Int × Value)} {a1 : Value} {l : List Int} (b : Int) (p : Int) (hmk : ∀ n ∈ l,withinM n f.Params 8191 = true) (hnd : l.Nodup) (hno : ∀ n ∈ l,lkM L n = none) : Tr Tryz.prog 161 #[.pointer (some ⟨g0,0,none⟩),a1,.int .i64 b,.int .i64 p] [da rFunc (vFunc f cf) f,dv (rL (rI .i64)) a1 l] [bx g0 179 [.int .i64 f.Params,cf,.map (some gm)],im gm L] (fun _ : Unit => .tuple #[]) (fun _ => []) (fun _ _ => [bx g0 179 [.int .i64 f.Params,cf,.map (some gm)],im gm (insA b p l L)]) := by
 refine jenter (args := [.pointer (some ⟨g0,0,none⟩),a1,.int .i64 b,.int .i64 p]) Tryz.func161 rfl rfl rfl fun w0 X => ?_
 refine jq (jq (jr (jm Z (jdq d1 fun q1 w1 => js (jln U22 d1 Z) (jm Z (jn (jx (jb ?_))))))))
 refine jlp (fun (k : Nat) => ⟨k ≤ l.length,[da rFunc (vFunc f cf) f,dv (rL (rI .i64)) a1 l],[bx g0 179 [.int .i64 f.Params,cf,.map (some gm)],im gm L],[(0,.pointer (some ⟨g0,0,none⟩)),(1,a1),(2,.int .i64 b),(3,.int .i64 p),(12,a1),(13,.int .i64 (↑(List.length l))),(14,.int .i64 (↑k))],l.length - k⟩) 0 (Nat.zero_le _) (dc d0 (dc d1 dn)) (kd kn) ⟨Z,Z,Z,Z,Z,Z,eqI (by omega),trivial⟩ ?_
 rintro k; dsimp only; rintro hk
 refine jq (jr (js (jlss Z Z) (jn (jx (jq ?_)))))
 refine jif Z (fun hc1 => ?_) (fun hc1 => ?_)
 refine jsk (jx (jq (jb (jq (jr (js (jix U22 Z3 d1 Z Z Z (by omega)) (js (jlI (dix d1 k (by omega)) O3 Z) (ja Z (jn (jx (jr ?_)))))))))))
 refine jm Z (jm Z (jm Z (jm Z (jc E179 Z Z (kMake_ct (f := f) _ _ _ (hmk _ (ix_mem (by omega)))) (dc d0 dn) (kd kn) (fun _ => p0) (fun _ => p2) fun _ => jn (jbn (jx (jr (js (jadd Z Z (by omega)) (jm Z (jn ?_))))))))))
 exact jag (k + 1) (by dsimp only; omega) (dc d0 (dc d1 dn)) (kd kn) ⟨Z,Z,Z,Z,Z,Z,eqI (by omega),trivial⟩
 refine jex (jtx (jtx (jbh (jx (jq (jr (jm Z (js (jln U22 d1 Z) (jm Z (jn (jx ?_)))))))))))
 refine jb ?_
 refine jlp (u2 fun (k : Nat) (L2 : List (Int × Value)) => ⟨k ≤ l.length ∧ L2 = insA b p (l.take k) L,[da rFunc (vFunc f cf) f,dv (rL (rI .i64)) a1 l],[bx g0 179 [.int .i64 f.Params,cf,.map (some gm)],im gm L2],[(0,.pointer (some ⟨g0,0,none⟩)),(2,.int .i64 b),(3,.int .i64 p),(24,a1),(25,.int .i64 (↑(List.length l))),(26,.int .i64 (↑k))],l.length - k⟩) (0,L) ⟨by dsimp only; omega,rfl⟩ (dc d0 (dc d1 dn)) (kd kn) ⟨Z,Z,Z,Z,Z,eqI (by omega),trivial⟩ ?_
 rintro ⟨k,L2⟩; dsimp only [u2]; rintro ⟨hk,hL2⟩
 refine jq (jr (js (jlss Z Z) (jn (jx (jq ?_)))))
 refine jif Z (fun hc2 => ?_) (fun hc2 => ?_)
 refine jsk (jx (jq (jb (jq (jr (js (jix U22 Z3 d1 Z Z Z (by omega)) (js (jlI (dix d1 k (by omega)) O3 Z) (ja Z (jn (jx (jr ?_)))))))))))
 refine jm Z (jm Z (jm Z (jm Z (jc E180 Z Z (kOnce_ct (f := f) _ _ _ (by rw [hL2]; exact ins_free (by omega) hnd hno)) (dc d0 dn) (kd kn) (fun _ => p0) (fun _ => p2) fun _ => jn (jbn (jx (jr (js (jadd Z Z (by omega)) (jm Z (jn ?_))))))))))
 exact jag (k + 1,upM L2 (ix l k) (wv b p)) ⟨by dsimp only; omega,by dsimp only; rw [hL2,ins_nx (by omega)]⟩ (dc d0 (dc d1 dn)) (kd kn) ⟨Z,Z,Z,Z,Z,eqI (by omega),trivial⟩
 refine jex (jtx (jtx (jbh ?_)))
 obtain rfl : L2 = insA b p l L := by rw [hL2,List.take_of_length_le (by omega)]
 exact jd0 Z () Z dn (fun _ _ => (kd kn))
theorem shapes_ct  : Tr Tryz.prog 164 #[] [] [] (fun g : Nat => .map (some g)) (fun _ => []) (fun _ g => [im g shL]) := by
 refine jenter (args := []) Tryz.func164 rfl rfl rfl fun w0 X => ?_
 refine jq (jr (ja Z (jn (jx (jq (jr (jmm fun g1 => js (jbu (v := .agg #[.int .i64 0,.int .i64 0,.int .i64 1,.int .i64 1]) Z (fun _ => by kernel_rfl)) (jin U213 U3 k0 Z Z Z Z (js (jbu (v := .agg #[.int .i64 1,.int .i64 1,.int .i64 2,.int .i64 2]) Z (fun _ => by kernel_rfl)) (jin U213 U3 k0 Z Z Z Z ?_))))))))))
 refine js (jbu (v := .agg #[.int .i64 1,.int .i64 1,.int .i64 2,.int .i64 65]) Z (fun _ => by kernel_rfl)) (jin U213 U3 k0 Z Z Z Z (js (jbu (v := .agg #[.int .i64 0,.int .i64 1,.int .i64 0,.int .i64 0]) Z (fun _ => by kernel_rfl)) (jin U213 U3 k0 Z Z Z Z (js (jbu (v := .agg #[.int .i64 0,.int .i64 0,.int .i64 0,.int .i64 0]) Z (fun _ => by kernel_rfl)) (jin U213 U3 k0 Z Z Z Z (jm Z (ja Z (jn (jx (jrt ?_))))))))))
 exact jr1 Z Z g1 Z dn (fun _ _ => (kc k0 kn))
set_option maxHeartbeats 800000 in
theorem kShape_ct {g0 gm : Nat} {cf : Value} {f : D.Func} {L : List (Int × Value)} (hG : GoodF f) (hL0 : L = []) : Tr Tryz.prog 115 #[.pointer (some ⟨g0,0,none⟩)] [da rFunc (vFunc f cf) f] [bx g0 179 [.int .i64 f.Params,cf,.map (some gm)],im gm L] (fun _ : Unit => .tuple #[]) (fun _ => []) (fun _ _ => [bx g0 179 [.int .i64 f.Params,cf,.map (some gm)],im gm (bkA f.Blocks f.Blocks.length)]) := by
 refine jenter (args := [.pointer (some ⟨g0,0,none⟩)]) Tryz.func115 rfl rfl rfl fun w0 X => ?_
 subst hL0
 refine jq (jr (jm Z (js (jnil Z) (js (jf F179_0 Z) (js (jf F49_1 Z) (js (jl k0 O47 Z Z) (jdq (rFunc.cB d0) fun q1 w1 => js (jln U47 (rFunc.cB d0) Z) (jm Z (jn (jx ?_))))))))))
 refine jb ?_
 refine jlp (u2 fun (k : Nat) (L1 : List (Int × Value)) => ⟨k ≤ f.Blocks.length ∧ L1 = bkA f.Blocks k,[da rFunc (vFunc f cf) f],[bx g0 179 [.int .i64 f.Params,cf,.map (some gm)],im gm L1],[(0,.pointer (some ⟨g0,0,none⟩)),(18,cf),(19,.int .i64 (↑(List.length f.Blocks))),(20,.int .i64 (↑k))],f.Blocks.length - k⟩) (0,[]) ⟨by dsimp only; omega,rfl⟩ (dc d0 dn) (kd kn) ⟨Z,Z,Z,eqI (by omega),trivial⟩ ?_
 rintro ⟨k,L1⟩; dsimp only [u2]; rintro ⟨hk,hL1⟩
 refine jq (jr (js (jlss Z Z) (jn (jx (jq ?_)))))
 refine jif Z (fun hc1 => ?_) (fun hc1 => ?_)
 have hb : k < f.Blocks.length := by omega
 obtain ⟨sh,hs1,hs2,hs3⟩ := hG.tm k hb
 refine jsk (jx (jq (jb (jq (jr (jm Z (js (jix U47 Z62 (rFunc.cB d0) Z Z Z (by omega)) (jA4 sBlock (jlA (dix (rFunc.cB d0) k (by omega)) A62 Z62 Z) fun c24a c24b c24c c24d => jalc J62 Z fun g3 => ja Z (jdq (rBlock.cP d0) fun q3 w3 => ?_)))))))))
 refine jdq (rBlock.cI d0) fun q4 w4 => jdq (rBlock.c_Term_Args d0) fun q5 w5 => jdq (rBlock.c_Term_To d0) fun q6 w6 => jsta k0 Z62 Z Z Z ⟨w3.one,w4.one,Z,w5.one,w6.one,Z,trivial⟩ (saf Z) (jn (jx (jq (jq (jr (js (jf F62_0 Z) (js (jl k0 O57 Z Z) (js (jln U57 (rBlock.cP d0) Z) ?_))))))))
 refine jm Z (jn (jx (jb ?_)))
 refine jlp (u2 fun (i : Nat) (L2 : List (Int × Value)) => ⟨i ≤ (ix f.Blocks k).Phis.length ∧ L2 = phA k (ix f.Blocks k).Phis L1 i,[da rBlock (vBlock (ix f.Blocks k) (c24a,c24b,c24c,c24d)) (ix f.Blocks k),da rFunc (vFunc f cf) f],[bx g3 62 [c24a,c24b,.int .i64 (((ix f.Blocks k).Term).Kind),c24c,c24d,.int .i32 (((ix f.Blocks k).Term).Imm)],bx g0 179 [.int .i64 f.Params,cf,.map (some gm)],im gm L2],[(0,.pointer (some ⟨g0,0,none⟩)),(2,.int .i64 (↑k)),(3,.pointer (some ⟨g3,0,none⟩)),(18,cf),(19,.int .i64 (↑(List.length f.Blocks))),(20,.int .i64 (↑k)),(26,c24a),(27,.int .i64 (↑(List.length ((ix f.Blocks k).Phis)))),(28,.int .i64 (↑i))],(ix f.Blocks k).Phis.length - i⟩) (0,L1) ⟨by dsimp only; omega,rfl⟩ (dc d0 (dc d1 dn)) (kd (kc k0 kn)) ⟨Z,Z,Z,Z,Z,Z,Z,Z,eqI (by omega),trivial⟩ ?_
 rintro ⟨i,L2⟩; dsimp only [u2]; rintro ⟨hi,hL2⟩
 refine jq (jr (js (jlss Z Z) (jn (jx (jq ?_)))))
 refine jif Z (fun hc2 => ?_) (fun hc2 => ?_)
 have hp9 := hG.pha hb (i := i) (by omega)
 refine jsk (jx (jq (jb (jq (jr (jm Z (js (jix U57 Z65 (rBlock.cP d0) Z Z Z (by omega)) (jA sPhi (jlA (dix (rBlock.cP d0) i (by omega)) A65 Z65 Z) fun c32 => jalc J65 Z fun g5 => ja Z (jdq (rPhi.c_In d0) fun q8 w8 => ?_)))))))))
 refine jsta k0 Z65 Z Z Z ⟨Z,w8.one,trivial⟩ (saf Z) (jn (jx (jr (jm Z (js (jf F65_0 Z) (js (jl k0 O3 Z Z) (jlit (r := (rI .i64)) (l := [(ix ((ix f.Blocks k).Phis) i).Dst]) U22 I3 (by decide) Z Z Z (lV Z Z (wI (rPhi.W_Dst d0)) ln) fun g36 => jm Z (jm Z (js (jsub Z Z (by omega)) (jfz k0 (by (try simp) <;> omega) ?_))))))))))
 refine jc E161 Z Z (kAll_ct (f := f) _ _ hp9.1 hp9.2.1 (by rw [hL2,hL1]; exact hp9.2.2)) (dc d3 (dc d0 dn)) (kc k2 (kc k2 kn)) (fun _ => p0) (fun _ => p2) fun _ => jn (jbn (jx (jr (js (jadd Z Z (by omega)) (jm Z (jn ?_))))))
 exact jag (i + 1,insA ((k : Nat) : Int) ((-1) - ((i : Nat) : Int)) ([(ix ((ix f.Blocks k).Phis) i).Dst]) L2) ⟨by dsimp only; omega,by dsimp only; rw [hL2]; rfl⟩ (dc d2 (dc d3 dn)) (kc k3 (kd kn)) ⟨Z,Z,Z,Z,Z,Z,Z,Z,eqI (by omega),trivial⟩
 refine jex (jtx (jtx (jbh (jx (jq (jq (jr (js (jf F62_1 Z) (js (jl k0 O58 Z Z) (js (jln U58 (rBlock.cI d0) Z) (jm Z ?_)))))))))))
 refine jn (jx (jb ?_))
 refine jlp (u2 fun (j : Nat) (L3 : List (Int × Value)) => ⟨j ≤ (ix f.Blocks k).Ins.length ∧ L3 = inA k (ix f.Blocks k).Ins L2 j,[da rBlock (vBlock (ix f.Blocks k) (c24a,c24b,c24c,c24d)) (ix f.Blocks k),da rFunc (vFunc f cf) f],[bx g3 62 [c24a,c24b,.int .i64 (((ix f.Blocks k).Term).Kind),c24c,c24d,.int .i32 (((ix f.Blocks k).Term).Imm)],bx g0 179 [.int .i64 f.Params,cf,.map (some gm)],im gm L3],[(0,.pointer (some ⟨g0,0,none⟩)),(2,.int .i64 (↑k)),(3,.pointer (some ⟨g3,0,none⟩)),(18,cf),(19,.int .i64 (↑(List.length f.Blocks))),(20,.int .i64 (↑k)),(43,c24b),(44,.int .i64 (↑(List.length ((ix f.Blocks k).Ins)))),(45,.int .i64 (↑j))],(ix f.Blocks k).Ins.length - j⟩) (0,L2) ⟨by dsimp only; omega,rfl⟩ (dc d0 (dc d1 dn)) (kd (kc k0 kn)) ⟨Z,Z,Z,Z,Z,Z,Z,Z,eqI (by omega),trivial⟩ ?_
 rintro ⟨j,L3⟩; dsimp only [u2]; rintro ⟨hj,hL3⟩
 refine jq (jr (js (jlss Z Z) (jn (jx (jq ?_)))))
 refine jif Z (fun hc3 => ?_) (fun hc3 => ?_)
 have hi9 := hG.ina hb (i := j) (by omega)
 have ho9 := hG.op k hb _ (ix_mem (l := (ix f.Blocks k).Ins) (i := j) (by omega))
 refine jsk (jx (jq (jb (jq (jr (jm Z (js (jix U58 Z67 (rBlock.cI d0) Z Z Z (by omega)) (jA sIns (jlA (dix (rBlock.cI d0) j (by omega)) A67 Z67 Z) fun c49 => jalc J67 Z fun g7 => ja Z (jdq (rIns.c_Args d0) fun q11 w11 => ?_)))))))))
 refine jsta k0 Z67 Z Z Z ⟨Z,Z,Z,w11.one,Z,trivial⟩ (saf Z) (jn (jx (jq (jr (js (jf F67_0 Z) (js (jl k0 O3 Z Z) (jcv E114 Z Z (within_ct ((ix ((ix f.Blocks k).Ins) j).Op) 1 18) dn kn (jm Z (jm Z (jc E113 Z Z (must_ct _ 10 ↑k ↑j (within_of ho9.1)) dn kn (fun _ => p0) (fun _ => p0) fun _ => jn ?_))))))))))
 refine jx (jq (jr (js (jf F67_0 Z) (js (jl k0 O3 Z Z) (jcv E162 Z Z (oper_ct ((ix ((ix f.Blocks k).Ins) j).Op)) dn kn (jm Z (js (jex' Z Z) (js (jex' Z Z) (ja Z (ja Z (jn ?_)))))))))))
 refine jx (jq (jr (js (jf F67_3 Z) (js (jl k0 O22 Z Z) (js (jln U22 (rIns.c_Args d0) Z) (jm Z (jm Z (jcv E114 Z Z (within_ct (↑(List.length ((ix ((ix f.Blocks k).Ins) j).Args))) ((operM ((ix ((ix f.Blocks k).Ins) j).Op)).1) ((operM ((ix ((ix f.Blocks k).Ins) j).Op)).2)) dn kn (jm Z (jm Z (jc E113 Z Z (must_ct _ 10 ↑k ↑j (within_of ho9.2)) dn kn (fun _ => p0) (fun _ => p0) fun _ => ?_)))))))))))
 refine jn (jx (jr (jm Z (js (jla k0 A67 Z67 Z Z Z) (jcd E163 Z Z kMakes_ct (dc d0 dn) kn fun v73 q12 w12 => jm Z (jm Z (jc E161 Z Z (kAll_ct (f := f) _ _ hi9.1 hi9.2.1 (by rw [hL3,hL2,hL1,show i = (ix f.Blocks k).Phis.length by omega]; exact hi9.2.2)) (dc d3 (dc d0 dn)) (kc k2 (kc k2 kn)) (fun _ => p0) (fun _ => p2) fun _ => jn (jbn (jx ?_)))))))))
 refine jr (js (jadd Z Z (by omega)) (jm Z (jn ?_)))
 exact jag (j + 1,insA ((k : Nat) : Int) ((j : Nat) : Int) (makes3 (ix ((ix f.Blocks k).Ins) j)) L3) ⟨by dsimp only; omega,by dsimp only; rw [hL3]; rfl⟩ (dc d2 (dc d3 dn)) (kc k3 (kd kn)) ⟨Z,Z,Z,Z,Z,Z,Z,Z,eqI (by omega),trivial⟩
 refine jex (jtx (jtx (jbh (jx (jq ?_)))))
 refine jjo (fun (gS : Nat) => ⟨0 ≤ gS,[da rBlock (vBlock (ix f.Blocks k) (c24a,c24b,c24c,c24d)) (ix f.Blocks k),da rFunc (vFunc f cf) f],[bx gS 211 [.int .i64 sh.1,.int .i64 sh.2.1,.int .i64 sh.2.2.1,.int .i64 sh.2.2.2],bx g3 62 [c24a,c24b,.int .i64 (((ix f.Blocks k).Term).Kind),c24c,c24d,.int .i32 (((ix f.Blocks k).Term).Imm)],bx g0 179 [.int .i64 f.Params,cf,.map (some gm)],im gm L3],[(0,.pointer (some ⟨g0,0,none⟩)),(2,.int .i64 (((k : Nat) : Int))),(3,.pointer (some ⟨g3,0,none⟩)),(10,.pointer (some ⟨gS,0,none⟩)),(11,.bool true),(18,cf),(19,.int .i64 (((List.length f.Blocks : Nat) : Int))),(20,.int .i64 (((k : Nat) : Int)))]⟩) ?_ ?_
 refine jany false (.a 1 (.a 2 (.a 3 (.w 0 8 (.w 4 8 (.a 5 (.a 6 (.a 7 (.o 8 (.o 9 (.a 10 .e)))))) (.o 4 (.a 5 (.a 6 (.a 7 (.o 9 (.a 10 .e))))))) (.o 0 (.o 4 (.a 5 (.a 6 (.a 7 (.o 9 (.a 10 .e))))))))))) Mixed (by kernel_rfl) (kc k0 kn) fun F15 => jy Z (jf F62_2 Z) (jy Z (jf F60_0 Z) (jy Z (jl k0 O3 Z Z) ?_))
 refine jyw Z Z ?_ ?_
 refine jc E164 Z Z shapes_ct dn kn (fun _ => p0) (fun _ => p1) fun g79 => jyn d0 (kc k1 kn) ?_
 refine jyw Z Z ?_ ?_
 refine js (jlkoS U213 U3 J211 k0 Z Z (shL_at hs1)) (jyn d0 (kc k1 kn) (jy Z (jmv Z) (jy Z (jex' Z Z) (jy Z (jex' Z Z) (jyo Z (jalc J211 Z fun g10 => jyn d0 (kc k2 kn) (jyo Z (jsta k0 Z211 Z Z Z ⟨Z,Z,Z,Z,trivial⟩ (saf Z) (jyn d0 (kc k2 kn) (jy Z (jas Z) ?_))))))))))
 refine jyd ?_
 exact jje g10 (Nat.zero_le _) (dc d4 (dc d5 dn)) (kc k0 (kc k1 (kc k1 (kc k1 kn)))) ⟨Z,Z,Z,Z,Z,Z,Z,Z,trivial⟩
 refine jalc J211 Z fun g10 => jyn d0 (kc k2 kn) (jyo Z (js (jlkoS U213 U3 J211 k1 Z Z (shL_at hs1)) (jyn d0 (kc k2 kn) (jy Z (jmv Z) (jy Z (jex' Z Z) (jy Z (jex' Z Z) (jyo Z (jsta k0 Z211 Z Z Z ⟨Z,Z,Z,Z,trivial⟩ (saf Z) (jyn d0 (kc k2 kn) (jy Z (jas Z) ?_))))))))))
 refine jyd ?_
 exact jje g10 (Nat.zero_le _) (dc d4 (dc d5 dn)) (kc k0 (kc k1 (kc k1 (kc k1 kn)))) ⟨Z,Z,Z,Z,Z,Z,Z,Z,trivial⟩
 refine jalc J211 Z fun g10 => jyn d0 (kc k1 kn) (jyo Z (jc E164 Z Z shapes_ct dn kn (fun _ => p0) (fun _ => p1) fun g79 => jyn d0 (kc k2 kn) (jyo Z (js (jlkoS U213 U3 J211 k0 Z Z (shL_at hs1)) (jyn d0 (kc k2 kn) (jy Z (jmv Z) (jy Z (jex' Z Z) (jy Z (jex' Z Z) (jyo Z ?_)))))))))
 refine jsta k1 Z211 Z Z Z ⟨Z,Z,Z,Z,trivial⟩ (saf Z) (jyn d0 (kc k2 kn) (jy Z (jas Z) (jyd ?_)))
 exact jje g10 (Nat.zero_le _) (dc d4 (dc d5 dn)) (kc k0 (kc k1 (kc k1 (kc k1 kn)))) ⟨Z,Z,Z,Z,Z,Z,Z,Z,trivial⟩
 rintro gS; dsimp only; rintro hgS
 refine jx (jq (jany false (.a 0 (.a 1 (.a 2 (.a 3 (.a 4 (.a 5 (.a 6 (.a 7 (.a 8 (.a 9 (.a 23 (.a 24 (.a 25 (.a 26 (.o 10 (.a 11 (.a 12 (.a 13 (.a 14 (.a 15 (.a 16 (.a 17 (.a 18 (.a 19 (.a 20 (.o 21 (.a 22 (.o 27 .e)))))))))))))))))))))))))))) Mixed (by kernel_rfl) (kd kn) fun F20 => jy Z (jmv Z) (jy Z (jmv Z) (jyk Z Z Z (.t _) (jf F62_2 Z) (jyk Z Z Z (.t _) (jf F60_1 Z) (jyk Z Z Z (.t _) (jl k1 O22 Z Z) (jyk Z Z Z (.t _) (jln U22 (rBlock.c_Term_Args d0) Z) (jyk Z Z Z (.t _) (jf F211_0 Z) (jyk Z Z Z (.t _) (jl k0 O3 Z Z) (jyk Z Z Z (.t _) (jf F211_1 Z) ?_))))))))))
 refine jyk Z Z Z (.t _) (jl k0 O3 Z Z) (jy Z (jmv Z) (jy Z (jf F62_1 Z) (jy Z (jl k1 O58 Z Z) (jy Z (jln U58 (rBlock.cI d0) Z) (jyo Z (jgk Z Z (.t _) (jcv E114 Z Z (within_ct (↑(List.length (((ix f.Blocks k).Term).Args))) sh.1 sh.2.1) dn kn (jyn d0 (kd kn) (jy Z (jand Z Z) (jy Z (jmv Z) (jyg Z Z Z (.t _) (fun hg => jf F62_2 Z) ?_)))))))))))
 refine jyg Z Z Z (.t _) (fun hg => jf F60_2 (evg Z hg)) (jyg Z Z Z (.t _) (fun hg => jl k1 O22 (evg Z hg) Z) (jyg Z Z Z (.t _) (fun hg => jln U22 (rBlock.c_Term_To d0) (evg Z hg)) (jyg Z Z Z (.t _) (fun hg => jf F211_2 Z) (jyg Z Z Z (.t _) (fun hg => jl k0 O3 (evg Z hg) Z) (jyg Z Z Z (.t _) (fun hg => jf F211_3 Z) (jyg Z Z Z (.t _) (fun hg => jl k0 O3 (evg Z hg) Z) (jyo Z (jgc Z Z (.t _) E114 Z (fun hg => evl3 (evg Z hg) (evg Z hg) (evg Z hg)) (fun hg => (within_ct (↑(List.length (((ix f.Blocks k).Term).To))) sh.2.2.1 sh.2.2.2)) (fun hg => dn) kn p0 (jyn d0 (kd kn) (jy Z (jand Z Z) (jyo Z ?_)))))))))))
 refine jc E113 Z Z (must_ct _ 10 ↑k (↑(List.length ((ix f.Blocks k).Ins))) (by simp [within_of hs2,within_of hs3])) dn kn (fun _ => p0) (fun _ => p0) fun _ => jyn d0 (kd kn) (jyd (jx (jq (jr (js (jf F62_2 Z) (js (jf F60_2 Z) (js (jl k1 O22 Z Z) (js (jln U22 (rBlock.c_Term_To d3) Z) (jm Z (jn ?_))))))))))
 refine jx (jb ?_)
 refine jlp (fun (m : Nat) => ⟨m ≤ (ix f.Blocks k).Term.To.length,[da rBlock (vBlock (ix f.Blocks k) (c24a,c24b,c24c,c24d)) (ix f.Blocks k),da rFunc (vFunc f cf) f],[bx g3 62 [c24a,c24b,.int .i64 (((ix f.Blocks k).Term).Kind),c24c,c24d,.int .i32 (((ix f.Blocks k).Term).Imm)],bx g0 179 [.int .i64 f.Params,cf,.map (some gm)],im gm L3],[(0,.pointer (some ⟨g0,0,none⟩)),(2,.int .i64 (↑k)),(3,.pointer (some ⟨g3,0,none⟩)),(18,cf),(19,.int .i64 (↑(List.length f.Blocks))),(20,.int .i64 (↑k)),(116,c24d),(117,.int .i64 (↑(List.length (((ix f.Blocks k).Term).To)))),(118,.int .i64 (↑m))],(ix f.Blocks k).Term.To.length - m⟩) 0 (Nat.zero_le _) (dc d3 (dc d4 dn)) (kc k1 (kc k1 (kc k1 kn))) ⟨Z,Z,Z,Z,Z,Z,Z,Z,eqI (by omega),trivial⟩ ?_
 rintro m; dsimp only; rintro hm
 refine jq (jr (js (jlss Z Z) (jn (jx (jq ?_)))))
 refine jif Z (fun hc4 => ?_) (fun hc4 => ?_)
 have ht9 := hG.to k hb _ (ix_mem (l := (ix f.Blocks k).Term.To) (i := m) (by omega))
 refine jsk (jx (jq (jb (jq (jr (js (jix U22 Z3 (rBlock.c_Term_To d0) Z Z Z (by omega)) (js (jlI (dix (rBlock.c_Term_To d0) m (by omega)) O3 Z) (ja Z (jn (jx (jany false (.a 0 (.a 1 (.a 2 (.a 3 (.a 4 (.a 5 (.a 6 (.a 7 (.a 9 (.a 10 (.a 11 (.a 12 (.o 8 (.o 13 .e)))))))))))))) Mixed (by kernel_rfl) (kd kn) fun F24 => ?_)))))))))))
 refine jy Z (jmv Z) (jy Z (jmv Z) (jy Z (jnil Z) (jy Z (jf F179_0 Z) (jy Z (jf F49_1 Z) (jy Z (jl k1 O47 Z Z) (jy Z (jln U47 (rFunc.cB d1) Z) (jy Z (jsub Z Z (by omega)) (jy Z (jmv Z) (jy Z (jf F62_1 Z) (jy Z (jl k0 O58 Z Z) (jy Z (jln U58 (rBlock.cI d0) Z) ?_)))))))))))
 refine jyo Z (jcv E114 Z Z (within_ct (ix (((ix f.Blocks k).Term).To) m) 1 _) dn kn (jyn d0 (kd kn) (jyo Z (jc E113 Z Z (must_ct _ 14 ↑k (↑(List.length ((ix f.Blocks k).Ins))) (within_of (by omega))) dn kn (fun _ => p0) (fun _ => p0) fun _ => jyn d0 (kd kn) (jyd (jbn (jx (jr (js (jadd Z Z (by omega)) (jm Z ?_))))))))))
 refine jn ?_
 exact jag (m + 1) (by dsimp only; omega) (dc d2 (dc d3 dn)) (kd (kc k0 kn)) ⟨Z,Z,Z,Z,Z,Z,Z,Z,eqI (by omega),trivial⟩
 refine jex (jtx (jtx (jbh (jbn (jx (jr (js (jadd Z Z (by omega)) (jm Z (jn ?_)))))))))
 exact jag (k + 1,L3) ⟨by dsimp only; omega,by dsimp only; rw [hL3,hL2,hL1,show i = (ix f.Blocks k).Phis.length by omega,show j = (ix f.Blocks k).Ins.length by omega]; rfl⟩ (dc d1 dn) (kc k1 (kc k1 kn)) ⟨Z,Z,Z,eqI (by omega),trivial⟩
 refine jex (jtx (jtx (jbh ?_)))
 obtain rfl : L1 = bkA f.Blocks f.Blocks.length := by rw [hL1,show k = f.Blocks.length by omega]
 exact jd0 Z () Z dn (fun _ _ => (kd kn))
end Go.Proofs.YtmfkkodnghambaaGreat
namespace Go.Proofs.YtmfkkodnghambaaGreat
open Go.JE
theorem E165 : Ent Tryz.prog 165 := ⟨_,Tryz.func165,by kernel_rfl,by kernel_rfl⟩
theorem E168 : Ent Tryz.prog 168 := ⟨_,Tryz.func168,by kernel_rfl,by kernel_rfl⟩
theorem E169 : Ent Tryz.prog 169 := ⟨_,Tryz.func169,by kernel_rfl,by kernel_rfl⟩
theorem E170 : Ent Tryz.prog 170 := ⟨_,Tryz.func170,by kernel_rfl,by kernel_rfl⟩
theorem F219_0 : Fld Tryz.prog 219 0 0 := ⟨_,_,Tryz.underlying219,rfl,rfl,1,(by unfold Sz; kernel_rfl),by decide⟩
theorem F219_1 : Fld Tryz.prog 219 1 1 := ⟨_,_,Tryz.underlying219,rfl,rfl,1,(by unfold Sz; kernel_rfl),by decide⟩
theorem O176 : One Tryz.prog 176 := ⟨_,Tryz.underlying176,rfl⟩
set_option maxRecDepth 4000
theorem kUse_ct {g0 gm : Nat} {cf : Value} {f : D.Func} {L : List (Int × Value)} (v : Int) (b : Int) (p : Int) (a : Int) (t : Int) {g5 : Nat} {vi : Value} {idom : List Int} {g6 : Nat} (hG : GoodF f) (hL0 : L = bkA f.Blocks f.Blocks.length) (hD : DomG (graphF f) idom) (hb : 0 ≤ b ∧ b < f.Blocks.length) (hU : US f v b.toNat a) : Tr Tryz.prog 169 #[.int .i64 v,.int .i64 b,.int .i64 p,.int .i64 a,.int .i64 t,.pointer (some ⟨g5,0,none⟩),.pointer (some ⟨g6,0,none⟩)] [da rFunc (vFunc f cf) f,dv (rL (rI .i64)) vi idom] [bx g0 179 [.int .i64 f.Params,cf,.map (some gm)],im gm L,bx g5 176 [.pointer (some ⟨g0,0,none⟩)],bx g6 22 [vi]] (fun _ : Unit => .tuple #[]) (fun _ => []) (fun _ _ => [bx g0 179 [.int .i64 f.Params,cf,.map (some gm)],im gm (bkA f.Blocks f.Blocks.length),bx g5 176 [.pointer (some ⟨g0,0,none⟩)],bx g6 22 [vi]]) := by
 refine jenter (args := [.int .i64 v,.int .i64 b,.int .i64 p,.int .i64 a,.int .i64 t,.pointer (some ⟨g5,0,none⟩),.pointer (some ⟨g6,0,none⟩)]) Tryz.func169 rfl rfl rfl fun w0 X => ?_
 subst hL0
 refine jq (jq (jr (jm Z (js (jgeq Z Z) (jm Z (jg Z Z (.t _) (fun hg => jmv Z) (jg Z Z (.t _) (fun hg => jl k2 O176 Z Z) (jg Z Z (.t _) (fun hg => jnil (evg Z hg)) (jg Z Z (.t _) (fun hg => jf F179_0 (evg Z hg)) (jg Z Z (.t _) (fun hg => jf F49_0 (evg Z hg)) (jg Z Z (.t _) (fun hg => jl k0 O3 (evg Z hg) Z) ?_)))))))))))
 refine jg Z Z (.t _) (fun hg => jlss (evg Z hg) (evg Z hg)) (js (jand Z Z) (jn (jx ?_)))
 refine jif Z (fun hc1 => ?_) (fun hc1 => ?_)
 refine jrt (jtr ?_)
 exact jr0 Z () Z dn (fun _ _ => (kd (kd kn)))
 obtain ⟨wb,wp,hpos,hor⟩ := hU.resolve_left (fun h9 => by simp [h9.1,h9.2] at hc1)
 have hat := hG.once.at hpos _ hpos.1
 have hor2 := use_ok hb hD hpos hor
 refine jsk (jx (jq (jr (js (jl k2 O176 Z Z) (js (jnil Z) (js (jf F179_1 Z) (js (jl k0 O177 Z Z) (jm Z (js (jlkoS U177 U3 J219 k1 Z Z hat) (jm Z (js (jex' Z Z) ?_)))))))))))
 refine js (jex' Z Z) (jalc J219 Z fun g12 => jsta k0 Z219 Z Z Z ⟨Z,Z,trivial⟩ (saf Z) (ja Z (jn (jx (jq (jr (jm Z (jm Z (jk Z Z (.t _) (jf F219_0 Z) (jk Z Z (.t _) (jl k0 O3 Z Z) ?_))))))))))
 refine jk Z Z (.t _) (jmv Z) (jk Z Z (.t _) (jeql Z Z) (jk Z Z (.t _) (jmv Z) (jg Z Z (.t _) (fun hg => jf F219_1 Z) (jg Z Z (.t _) (fun hg => jl k0 O3 (evg Z hg) Z) (jg Z Z (.t _) (fun hg => jmv Z) (jg Z Z (.t _) (fun hg => jlss (evg Z hg) (evg Z hg)) (jg Z Z (.t _) (fun hg => jmv (evg Z hg)) (jg Z Z (.gf _ _) (fun hg => jf F219_1 Z) (jg Z Z (.gf _ _) (fun hg => jl k0 O3 (evg Z hg) Z) (jg Z Z (.gf _ _) (fun hg => jlss (evg Z hg) Z) (jg Z Z (.t _) (fun hg => jor2 hg Z Z) ?_)))))))))))
 refine jk Z Z (.t _) (jand Z Z) (jk Z Z (.t _) (jmv Z) (jg Z Z (.f _) (fun hg => jf F219_0 Z) (jg Z Z (.f _) (fun hg => jl k0 O3 (evg Z hg) Z) (jg Z Z (.f _) (fun hg => jmv Z) (jg Z Z (.f _) (fun hg => jneq (evg Z hg) (evg Z hg)) (jg Z Z (.f _) (fun hg => jmv (evg Z hg)) (jg Z Z (.gt _ _) (fun hg => jl k4 O22 Z Z) (jg Z Z (.gt _ _) (fun hg => jf F219_0 Z) (jg Z Z (.gt _ _) (fun hg => jl k0 O3 (evg Z hg) Z) (jg Z Z (.gt _ _) (fun hg => jmv Z) (jdq d1 fun q1 w1 => ?_)))))))))))
 refine jgc Z Z (.gt _ _) E170 Z (fun hg => evl3 (evg Z hg) (evg Z hg) (evg Z hg)) (fun hg => (dominates_ct ↑wb b)) (fun hg => (dc d1 dn)) kn p0 (jg Z Z (.f _) (fun hg => jand2 hg Z Z) (jk Z Z (.t _) (jor Z Z) (js (jand Z Z) (ja Z (jn (jx (jr (jm Z (jm Z (jm Z (jc E113 Z Z (must_ct _ 13 t p (by rcases hor2 with ⟨h1,h2⟩ | ⟨h1,h2⟩ <;> simp [h1,h2])) dn kn (fun _ => p0) (fun _ => p0) fun _ => ?_)))))))))))
 refine jn ?_
 exact jd0 Z () Z dn (fun _ _ => (kc k1 (kc k1 (kc k1 (kc k1 kn)))))
theorem kIndex_ct {a0 : Value} {l : List Int} (v : Int) : Tv Tryz.prog 176 #[a0,.int .i64 v] [dv (rL (rI .i64)) a0 l] [] (.int .i64 (idzM l v)) := by
 refine jenter (args := [a0,.int .i64 v]) Tryz.func176 rfl rfl rfl fun w0 X => ?_
 refine jq (jr (ja Z (jn (jx (jq (jq (jr (jm Z (jdq d0 fun q1 w1 => js (jln U22 d0 Z) (jm Z ?_))))))))))
 refine jn (jx (jb ?_))
 refine jlp (fun (k : Nat) => ⟨k ≤ l.length ∧ idzM l v = idxA l v (l.length - k) k,[dv (rL (rI .i64)) a0 l],[],[(0,a0),(1,.int .i64 v),(7,.int .i64 (↑(List.length l))),(8,.int .i64 (↑k))],l.length - k⟩) 0 ⟨Nat.zero_le _,rfl⟩ (dc d0 dn) kn ⟨Z,Z,Z,eqI (by omega),trivial⟩ ?_
 rintro k; dsimp only; rintro ⟨hk,hix⟩
 refine jq (jr (js (jlss Z Z) (jn (jx (jq ?_)))))
 refine jif Z (fun hc1 => ?_) (fun hc1 => ?_)
 refine jsk (jx (jq (jb (jq (jr (jm Z (ja Z (jn (jx (jq (jr ?_)))))))))))
 refine jm Z (jm Z (jm Z (js (jix U22 Z3 d0 Z Z Z (by omega)) (js (jlI (dix d0 k (by omega)) O3 Z) (js (jeql Z Z) (jn (jx ?_)))))))
 refine jif Z (fun hc2 => ?_) (fun hc2 => ?_)
 refine jq (jr (jm Z (ja Z (jn (jx (jrt (jbr (jtr (jtr (jbr (jtr ?_)))))))))))
 exact jrI Z Z (by first | (rw [hix]; exact idxA_yes (by omega) hc2) | (rw [hix,show l.length - k = 0 by omega]; rfl))
 refine jsk (jbn (jx (jr (js (jadd Z Z (by omega)) (jm Z (jn ?_))))))
 exact jag (k + 1) ⟨by omega,by rw [hix]; exact idxA_no (by omega) hc2⟩ (dc d0 dn) kn ⟨Z,Z,Z,eqI (by omega),trivial⟩
 refine jex (jtx (jtx (jbh (jx (jq (jr (ja Z (jn (jx (jrt ?_))))))))))
 exact jrI Z Z (by first | (rw [hix]; exact idxA_yes (by omega) hc2) | (rw [hix,show l.length - k = 0 by omega]; rfl))
theorem kContains_ct {a0 : Value} {l : List Int} (v : Int) : Tv Tryz.prog 138 #[a0,.int .i64 v] [dv (rL (rI .i64)) a0 l] [] (.bool (conM l v)) := by
 refine jenter (args := [a0,.int .i64 v]) Tryz.func138 rfl rfl rfl fun w0 X => ?_
 refine jq (jr (ja Z (jn (jx (jq (jr (jm Z (jm Z (jdq d0 fun q1 w1 => jcv E176 Z Z (kIndex_ct v) (dc d0 dn) kn (js (jgeq Z Z) ?_))))))))))
 refine ja Z (jn (jx (jrt ?_)))
 exact jrB Z Z (by unfold conM; rfl)
set_option maxHeartbeats 2000000 in
theorem kUses_ct {g0 gm : Nat} {cf : Value} {f : D.Func} {L : List (Int × Value)} (hG : GoodF f) (hL0 : L = bkA f.Blocks f.Blocks.length) : Tr Tryz.prog 116 #[.pointer (some ⟨g0,0,none⟩)] [da rFunc (vFunc f cf) f] [bx g0 179 [.int .i64 f.Params,cf,.map (some gm)],im gm L] (fun _ : Unit => .tuple #[]) (fun _ => []) (fun _ _ => [bx g0 179 [.int .i64 f.Params,cf,.map (some gm)],im gm (bkA f.Blocks f.Blocks.length)]) := by
 refine jenter (args := [.pointer (some ⟨g0,0,none⟩)]) Tryz.func116 rfl rfl rfl fun w0 X => ?_
 subst hL0
 have hn := hG.gn
 have hw := hG.gw
 have hgl := graph_len f
 have hpl := preds_len (graphF f)
 refine jq (jr (jbox Z Z fun g1 => jn (jx (jq (jr (js (jl k0 O176 Z Z) (js (jnil Z) (js (jf F179_0 Z) (js (jla k1 A49 Z49 Z Z Z) (jcd E165 Z Z graphOf_ct (dc d0 dn) kn fun v27 q1 w1 => ?_))))))))))
 refine ja Z (jn (jx (jq (jr (jm Z (jc E166 Z Z (order_ct hn hw) (dc d0 dn) kn (fun _ => p2) (fun _ => p0) fun c29 => jpu d1 fun hod => ja Z (jn (jx (jq ?_)))))))))
 refine jq (jr (js (jl k0 O176 Z Z) (js (jnil Z) (js (jf F179_0 Z) (js (jf F49_1 Z) (js (jl k1 O47 Z Z) (jdq (rFunc.cB d3) fun q5 w5 => js (jln U47 (rFunc.cB d3) Z) (jm Z (jn (jx ?_))))))))))
 refine jb ?_
 refine jlp (fun (k : Nat) => ⟨k ≤ f.Blocks.length,[dv (rL (rI .i64)) c29.1 c29.2,dv (rL (rL (rI .i64))) v27 (graphF f),da rFunc (vFunc f cf) f],[bx g1 176 [.pointer (some ⟨g0,0,none⟩)],bx g0 179 [.int .i64 f.Params,cf,.map (some gm)],im gm (bkA f.Blocks f.Blocks.length)],[(1,.pointer (some ⟨g1,0,none⟩)),(2,v27),(3,c29.1),(35,.int .i64 (↑(List.length f.Blocks))),(36,.int .i64 (↑k))],f.Blocks.length - k⟩) 0 (Nat.zero_le _) (dc d0 (dc d2 (dc d3 dn))) (kd (kc k0 kn)) ⟨Z,Z,Z,Z,eqI (by omega),trivial⟩ ?_
 rintro k; dsimp only; rintro hk
 refine jq (jr (js (jlss Z Z) (jn (jx (jq ?_)))))
 refine jif Z (fun hc1 => ?_) (fun hc1 => ?_)
 have hcn := con_mem ((hod.all (k : Int)).2 ⟨by omega,by omega⟩)
 refine jsk (jx (jq (jb (jq (jr (jm Z (ja Z (jn (jx (jr (jm Z ?_)))))))))))
 refine jm Z (jdq d0 fun q6 w6 => jcv E138 Z Z (kContains_ct ↑k) (dc d0 dn) kn (jm Z (jc E113 Z Z (must_ct _ 15 ↑k 0 hcn) dn kn (fun _ => p0) (fun _ => p0) fun _ => jn (jbn (jx (jr (js (jadd Z Z (by omega)) (jm Z (jn ?_)))))))))
 exact jag (k + 1) (by dsimp only; omega) (dc d0 (dc d1 (dc d2 dn))) (kd (kc k0 kn)) ⟨Z,Z,Z,Z,eqI (by omega),trivial⟩
 refine jex (jtx (jtx (jbh (jx (jq (jr (jm Z (jcd E167 Z Z (preds_ct hn.2) (dc d1 dn) kn fun v46 q7 w7 => jm Z (jc E168 Z Z (idom_ct hn hw) (dc d2 dn) kn (fun _ => p2) (fun _ => p0) fun c48 => jpu d1 fun hdg => ?_)))))))))
 refine jalc J22 Z fun g6 => ja Z (jdq d0 fun q11 w11 => jst k0 Z22 Z Z w11.one s0 (jn (jx (jq (jr (js (jmf2 Z Z) (ja Z (jn (jx ?_)))))))))
 refine jq (jr (js (jl k1 O176 Z Z) (js (jnil Z) (js (jf F179_0 Z) (js (jf F49_1 Z) (js (jl k2 O47 Z Z) (js (jln U47 (rFunc.cB d5) Z) (jm Z (jn (jx (jb ?_)))))))))))
 refine jlp (fun (k : Nat) => ⟨k ≤ f.Blocks.length,[dv (rL (rI .i64)) c48.1 c48.2,dv (rL (rL (rI .i64))) v46 (predsG (graphF f)),da rFunc (vFunc f cf) f],[bx g6 22 [c48.1],bx g1 176 [.pointer (some ⟨g0,0,none⟩)],bx g0 179 [.int .i64 f.Params,cf,.map (some gm)],im gm (bkA f.Blocks f.Blocks.length)],[(1,.pointer (some ⟨g1,0,none⟩)),(5,v46),(7,.func (.func 169) #[] #[.pointer (some ⟨g1,0,none⟩),.pointer (some ⟨g6,0,none⟩)]),(54,cf),(55,.int .i64 (↑(List.length f.Blocks))),(56,.int .i64 (↑k))],f.Blocks.length - k⟩) 0 (Nat.zero_le _) (dc d0 (dc d2 (dc d5 dn))) (kd (kd kn)) ⟨Z,Z,Z,Z,Z,eqI (by omega),trivial⟩ ?_
 rintro k; dsimp only; rintro hk
 refine jq (jr (js (jlss Z Z) (jn (jx (jq ?_)))))
 refine jif Z (fun hc2 => ?_) (fun hc2 => ?_)
 have hb : k < f.Blocks.length := by omega
 refine jsk (jx (jq (jb (jq (jr (jm Z (js (jix U47 Z62 (rFunc.cB d2) Z Z Z (by omega)) (jA4 sBlock (jlA (dix (rFunc.cB d2) k (by omega)) A62 Z62 Z) fun c60a c60b c60c c60d => jalc J62 Z fun g9 => ja Z (jdq (rBlock.cP d0) fun q13 w13 => ?_)))))))))
 refine jdq (rBlock.cI d0) fun q14 w14 => jdq (rBlock.c_Term_Args d0) fun q15 w15 => jdq (rBlock.c_Term_To d0) fun q16 w16 => jsta k0 Z62 Z Z Z ⟨w13.one,w14.one,Z,w15.one,w16.one,Z,trivial⟩ (saf Z) (jn (jx (jq (jq (jr (js (jf F62_0 Z) (js (jl k0 O57 Z Z) (js (jln U57 (rBlock.cP d0) Z) ?_))))))))
 refine jm Z (jn (jx (jb ?_)))
 refine jlp (fun (i : Nat) => ⟨i ≤ (ix f.Blocks k).Phis.length,[da rBlock (vBlock (ix f.Blocks k) (c60a,c60b,c60c,c60d)) (ix f.Blocks k),dv (rL (rI .i64)) c48.1 c48.2,dv (rL (rL (rI .i64))) v46 (predsG (graphF f)),da rFunc (vFunc f cf) f],[bx g9 62 [c60a,c60b,.int .i64 (((ix f.Blocks k).Term).Kind),c60c,c60d,.int .i32 (((ix f.Blocks k).Term).Imm)],bx g6 22 [c48.1],bx g1 176 [.pointer (some ⟨g0,0,none⟩)],bx g0 179 [.int .i64 f.Params,cf,.map (some gm)],im gm (bkA f.Blocks f.Blocks.length)],[(1,.pointer (some ⟨g1,0,none⟩)),(5,v46),(7,.func (.func 169) #[] #[.pointer (some ⟨g1,0,none⟩),.pointer (some ⟨g6,0,none⟩)]),(8,.int .i64 (↑k)),(9,.pointer (some ⟨g9,0,none⟩)),(54,cf),(55,.int .i64 (↑(List.length f.Blocks))),(56,.int .i64 (↑k)),(62,c60a),(63,.int .i64 (↑(List.length ((ix f.Blocks k).Phis)))),(64,.int .i64 (↑i))],(ix f.Blocks k).Phis.length - i⟩) 0 (Nat.zero_le _) (dc d0 (dc d1 (dc d2 (dc d3 dn)))) (kd (kd (kc k0 kn))) ⟨Z,Z,Z,Z,Z,Z,Z,Z,Z,Z,eqI (by omega),trivial⟩ ?_
 rintro i; dsimp only; rintro hi
 refine jq (jr (js (jlss Z Z) (jn (jx (jq ?_)))))
 refine jif Z (fun hc3 => ?_) (fun hc3 => ?_)
 have hi9 := hG.in1 hb (i := i) (by omega)
 refine jsk (jx (jq (jb (jq (jr (jm Z (js (jix U57 Z65 (rBlock.cP d0) Z Z Z (by omega)) (jA sPhi (jlA (dix (rBlock.cP d0) i (by omega)) A65 Z65 Z) fun c68 => jalc J65 Z fun g11 => ja Z (jdq (rPhi.c_In d0) fun q18 w18 => ?_)))))))))
 refine jsta k0 Z65 Z Z Z ⟨Z,w18.one,trivial⟩ (saf Z) (jn (jx (jq (jstl Mixed (by kernel_rfl) (jt (jmv Z) (jt (jgtr Z Z) (jt (jmv Z) (jtg Z Z (.t _) (fun hg => jf F65_1 Z) (jtg Z Z (.t _) (fun hg => jl k0 O63 (evg Z hg) Z) (jtg Z Z (.t _) (fun hg => jln U63 (rPhi.c_In d0) (evg Z hg)) (jtg Z Z (.t _) (fun hg => jmv Z) ?_)))))))))))
 refine jtg Z Z (.t _) (fun hg => jmv Z) (jtg Z Z (.t _) (fun hg => jix U125 Z22 d3 (evg Z hg) (evg Z hg) Z (by first | omega | (simp at hg; omega) | (simp only [List.length_set]; omega) | (simp; done))) (jtge (q := fun v => dv (rL (rI .i64)) v (ix (predsG (graphF f)) k)) Z Z (.t _) (fun hg => jlV (dix d3 k (by first | omega | (simp at hg; omega) | (simp only [List.length_set]; omega) | (simp; done))) O22 Z (evg Z hg)) fun v78 => jtg Z Z (.t _) (fun hg => jln U22 (d0.on hg) (evg Z hg)) (jtg Z Z (.t _) (fun hg => jeql (evg Z hg) (evg Z hg)) (jt (jand Z Z) (jt (jas Z) (jdn (jx (jq (jq (jr ?_))))))))))
 refine js (jf F65_1 Z) (js (jl k0 O63 Z Z) (js (jln U63 (rPhi.c_In d1) Z) (jm Z (jn (jx (jb ?_))))))
 refine jlp (u2 fun (j : Nat) (ft : Bool) => ⟨j ≤ (ix (ix f.Blocks k).Phis i).In.length ∧ ft = true,[da rPhi (vPhi (ix ((ix f.Blocks k).Phis) i) c68) (ix ((ix f.Blocks k).Phis) i),da rBlock (vBlock (ix f.Blocks k) (c60a,c60b,c60c,c60d)) (ix f.Blocks k),dv (rL (rI .i64)) c48.1 c48.2,dv (rL (rL (rI .i64))) v46 (predsG (graphF f)),da rFunc (vFunc f cf) f],[bx g11 65 [.int .i64 ((ix ((ix f.Blocks k).Phis) i).Dst),c68],bx g9 62 [c60a,c60b,.int .i64 (((ix f.Blocks k).Term).Kind),c60c,c60d,.int .i32 (((ix f.Blocks k).Term).Imm)],bx g6 22 [c48.1],bx g1 176 [.pointer (some ⟨g0,0,none⟩)],bx g0 179 [.int .i64 f.Params,cf,.map (some gm)],im gm (bkA f.Blocks f.Blocks.length)],[(1,.pointer (some ⟨g1,0,none⟩)),(5,v46),(7,.func (.func 169) #[] #[.pointer (some ⟨g1,0,none⟩),.pointer (some ⟨g6,0,none⟩)]),(8,.int .i64 (↑k)),(9,.pointer (some ⟨g9,0,none⟩)),(10,.int .i64 (↑i)),(11,.pointer (some ⟨g11,0,none⟩)),(12,.bool ft),(54,cf),(55,.int .i64 (↑(List.length f.Blocks))),(56,.int .i64 (↑k)),(62,c60a),(63,.int .i64 (↑(List.length ((ix f.Blocks k).Phis)))),(64,.int .i64 (↑i)),(83,c68),(84,.int .i64 (↑(List.length ((ix ((ix f.Blocks k).Phis) i).In)))),(85,.int .i64 (↑j))],(ix (ix f.Blocks k).Phis i).In.length - j⟩) (0,(decide (0 < ((k : Nat) : Int))) && (decide (((List.length ((ix ((ix f.Blocks k).Phis) i).In) : Nat) : Int) = ((List.length (ix (predsG (graphF f)) k) : Nat) : Int)))) ⟨Nat.zero_le _,by simp [hi9]⟩ (dc d1 (dc d2 (dc d3 (dc d4 (dc d5 dn))))) (kd (kd (kd kn))) ⟨Z,Z,Z,Z,Z,Z,Z,Z,Z,Z,Z,Z,Z,Z,Z,Z,eqI (by omega),trivial⟩ ?_
 rintro ⟨j,ft⟩; dsimp only [u2]; rintro ⟨hj,hft⟩
 refine jq (jr (js (jlss Z Z) (jn (jx (jq ?_)))))
 refine jif Z (fun hc4 => ?_) (fun hc4 => ?_)
 have hj9 := hG.in2 hb (i := i) (j := j) (by omega) (by omega)
 refine jsk (jx (jq (jb (jq (jr (jm Z (js (jix U63 Z111 (rPhi.c_In d0) Z Z Z (by omega)) (jA sIn (jlA (dix (rPhi.c_In d0) j (by omega)) A111 Z111 Z) fun _ => jalc J111 Z fun g14 => ja Z (jsta k0 Z111 Z Z Z ⟨Z,Z,trivial⟩ (saf Z) ?_)))))))))
 refine jn (jx (jstl Mixed (by kernel_rfl) (jt (jmv Z) (jt (jmv Z) (jtg Z Z (.t _) (fun hg => jf F111_0 Z) (jtg Z Z (.t _) (fun hg => jl k0 O3 (evg Z hg) Z) (jtg Z Z (.t _) (fun hg => jmv Z) (jtg Z Z (.t _) (fun hg => jmv Z) (jtg Z Z (.t _) (fun hg => jix U125 Z22 d4 (evg Z hg) (evg Z hg) Z (by first | omega | (simp at hg; omega) | (simp only [List.length_set]; omega) | (simp; done))) (jtge (q := fun v => dv (rL (rI .i64)) v (ix (predsG (graphF f)) k)) Z Z (.t _) (fun hg => jlV (dix d4 k (by first | omega | (simp at hg; omega) | (simp only [List.length_set]; omega) | (simp; done))) O22 Z (evg Z hg)) fun v97 => jtg Z Z (.t _) (fun hg => jmv Z) ?_))))))))))
 refine jtg Z Z (.t _) (fun hg => jix U22 Z3 (d0.on hg) (evg Z hg) (evg Z hg) Z (by first | omega | (simp at hg; omega) | (simp only [List.length_set]; omega) | (simp; done))) (jtg Z Z (.t _) (fun hg => jlI (dix (d0.on hg) j (by first | omega | (simp at hg; omega) | (simp only [List.length_set]; omega) | (simp; done))) O3 (evg Z hg)) (jtg Z Z (.t _) (fun hg => jeql (evg Z hg) (evg Z hg)) (jt (jand Z Z) (jt (jas Z) (jdn (jbn (jx (jr (js (jadd Z Z (by omega)) (jm Z (jn ?_)))))))))))
 exact jag (j + 1,ft && (decide ((ix ((ix ((ix f.Blocks k).Phis) i).In) j).From = ix (ix (predsG (graphF f)) k) j))) ⟨by dsimp only; omega,by simp [hft,hj9]⟩ (dc d2 (dc d3 (dc d4 (dc d5 (dc d6 dn))))) (kc k1 (kc k1 (kc k1 (kc k1 (kc k1 (kc k1 kn)))))) ⟨Z,Z,Z,Z,Z,Z,Z,Z,Z,Z,Z,Z,Z,Z,Z,Z,eqI (by omega),trivial⟩
 refine jex (jtx (jtx (jbh (jx (jq (jr (jm Z (jm Z (jm Z (js (jsub Z Z (by omega)) (jc E113 Z Z (must_ct _ 16 ↑k _ hft) dn kn (fun _ => p0) (fun _ => p0) fun _ => ?_)))))))))))
 refine jn (jx (jq (jr (js (jf F65_1 Z) (js (jl k0 O63 Z Z) (js (jln U63 (rPhi.c_In d0) Z) (jm Z (jn (jx (jb ?_))))))))))
 refine jlp (fun (j : Nat) => ⟨j ≤ (ix (ix f.Blocks k).Phis i).In.length,[da rPhi (vPhi (ix ((ix f.Blocks k).Phis) i) c68) (ix ((ix f.Blocks k).Phis) i),da rBlock (vBlock (ix f.Blocks k) (c60a,c60b,c60c,c60d)) (ix f.Blocks k),dv (rL (rI .i64)) c48.1 c48.2,dv (rL (rL (rI .i64))) v46 (predsG (graphF f)),da rFunc (vFunc f cf) f],[bx g9 62 [c60a,c60b,.int .i64 (((ix f.Blocks k).Term).Kind),c60c,c60d,.int .i32 (((ix f.Blocks k).Term).Imm)],bx g6 22 [c48.1],bx g1 176 [.pointer (some ⟨g0,0,none⟩)],bx g0 179 [.int .i64 f.Params,cf,.map (some gm)],im gm (bkA f.Blocks f.Blocks.length)],[(1,.pointer (some ⟨g1,0,none⟩)),(5,v46),(7,.func (.func 169) #[] #[.pointer (some ⟨g1,0,none⟩),.pointer (some ⟨g6,0,none⟩)]),(8,.int .i64 (↑k)),(9,.pointer (some ⟨g9,0,none⟩)),(10,.int .i64 (↑i)),(54,cf),(55,.int .i64 (↑(List.length f.Blocks))),(56,.int .i64 (↑k)),(62,c60a),(63,.int .i64 (↑(List.length ((ix f.Blocks k).Phis)))),(64,.int .i64 (↑i)),(110,c68),(111,.int .i64 (↑(List.length ((ix ((ix f.Blocks k).Phis) i).In)))),(112,.int .i64 (↑j))],(ix (ix f.Blocks k).Phis i).In.length - j⟩) 0 (Nat.zero_le _) (dc d0 (dc d1 (dc d2 (dc d3 (dc d4 dn))))) (kc k1 (kc k1 (kc k1 (kc k1 (kc k1 kn))))) ⟨Z,Z,Z,Z,Z,Z,Z,Z,Z,Z,Z,Z,Z,Z,eqI (by omega),trivial⟩ ?_
 rintro j; dsimp only; rintro hj
 refine jq (jr (js (jlss Z Z) (jn (jx (jq ?_)))))
 refine jif Z (fun hc5 => ?_) (fun hc5 => ?_)
 have hj9 := hG.in2 hb (i := i) (j := j) (by omega) (by omega)
 have hu9 := hG.up k hb _ (ix_mem (l := (ix f.Blocks k).Phis) (i := i) (by omega)) _ (ix_mem (i := j) (by omega))
 refine jsk (jx (jq (jb (jq (jr (js (jix U63 Z111 (rPhi.c_In d0) Z Z Z (by omega)) (jA sIn (jlA (dix (rPhi.c_In d0) j (by omega)) A111 Z111 Z) fun _ => jalc J111 Z fun g16 => jsta k0 Z111 Z Z Z ⟨Z,Z,trivial⟩ (saf Z) (jn (jx ?_)))))))))
 refine jany false (.a 0 (.a 1 (.a 2 (.a 3 (.a 4 (.a 5 (.a 6 (.a 7 (.a 8 (.a 9 (.a 10 (.a 11 (.a 12 (.a 13 (.a 14 (.a 15 (.a 16 (.a 17 (.a 18 (.o 19 .e)))))))))))))))))))) Mixed (by kernel_rfl) (kc k0 (kc k2 (kc k2 kn))) fun F23 => jy Z (jmv Z) (jy Z (jf F111_1 Z) (jy Z (jl k0 O3 Z Z) (jy Z (jf F111_0 Z) (jy Z (jl k0 O3 Z Z) (jy Z (jmv Z) (jy Z (jsub Z Z (by omega)) (jy Z (jl k1 O176 Z Z) (jy Z (jnil Z) (jy Z (jf F179_0 Z) (jy Z (jf F49_1 Z) ?_))))))))))
 refine jy Z (jl k2 O47 Z Z) (jy Z (jf F111_0 Z) (jy Z (jl k0 O3 Z Z) (jy Z (jix (i := (Int.toNat ((ix ((ix ((ix f.Blocks k).Phis) i).In) j).From))) U47 Z62 (rFunc.cB d5) Z Z (by omega) (by omega)) (jy Z (jf F62_1 Z) (jye (q := fun v => dv (rL rIns) v ((ix f.Blocks (Int.toNat ((ix ((ix ((ix f.Blocks k).Phis) i).In) j).From))).Ins)) Z (xlV (rBlock.A_Ins (dix (rFunc.cB d5) (Int.toNat ((ix ((ix ((ix f.Blocks k).Phis) i).In) j).From)) (by omega))) O58 Z Z) fun v132 => adq d0 fun q25 w25 => jy Z (jln U58 d0 Z) (jy Z (jmv Z) (jyo Z (jc E169 Z Z (kUse_ct (f := f) _ _ _ _ _ hG rfl hdg hj9.2 hu9) (dc d7 (dc d5 dn)) (kc k4 (kc k4 (kc k3 (kc k2 kn)))) (fun _ => p0) (fun _ => p4) fun _ => jyn d0 (kc k4 (kc k2 (kc k0 kn))) ?_))))))))
 refine jyd (jbn (jx (jr (js (jadd Z Z (by omega)) (jm Z (jn ?_))))))
 exact jag (j + 1) (by dsimp only; omega) (dc d3 (dc d4 (dc d5 (dc d6 (dc d7 dn))))) (kc k5 (kc k3 (kc k2 (kd kn)))) ⟨Z,Z,Z,Z,Z,Z,Z,Z,Z,Z,Z,Z,Z,Z,eqI (by omega),trivial⟩
 refine jex (jtx (jtx (jbh (jbn (jx (jr (js (jadd Z Z (by omega)) (jm Z (jn ?_)))))))))
 exact jag (i + 1) (by dsimp only; omega) (dc d1 (dc d2 (dc d3 (dc d4 dn)))) (kd (kd (kc k0 kn))) ⟨Z,Z,Z,Z,Z,Z,Z,Z,Z,Z,eqI (by omega),trivial⟩
 refine jex (jtx (jtx (jbh (jx (jq (jq (jr (js (jf F62_1 Z) (js (jl k0 O58 Z Z) (js (jln U58 (rBlock.cI d0) Z) (jm Z ?_)))))))))))
 refine jn (jx (jb ?_))
 refine jlp (fun (i : Nat) => ⟨i ≤ (ix f.Blocks k).Ins.length,[da rBlock (vBlock (ix f.Blocks k) (c60a,c60b,c60c,c60d)) (ix f.Blocks k),dv (rL (rI .i64)) c48.1 c48.2,dv (rL (rL (rI .i64))) v46 (predsG (graphF f)),da rFunc (vFunc f cf) f],[bx g9 62 [c60a,c60b,.int .i64 (((ix f.Blocks k).Term).Kind),c60c,c60d,.int .i32 (((ix f.Blocks k).Term).Imm)],bx g6 22 [c48.1],bx g1 176 [.pointer (some ⟨g0,0,none⟩)],bx g0 179 [.int .i64 f.Params,cf,.map (some gm)],im gm (bkA f.Blocks f.Blocks.length)],[(1,.pointer (some ⟨g1,0,none⟩)),(5,v46),(7,.func (.func 169) #[] #[.pointer (some ⟨g1,0,none⟩),.pointer (some ⟨g6,0,none⟩)]),(8,.int .i64 (↑k)),(9,.pointer (some ⟨g9,0,none⟩)),(54,cf),(55,.int .i64 (↑(List.length f.Blocks))),(56,.int .i64 (↑k)),(139,c60b),(140,.int .i64 (↑(List.length ((ix f.Blocks k).Ins)))),(141,.int .i64 (↑i))],(ix f.Blocks k).Ins.length - i⟩) 0 (Nat.zero_le _) (dc d0 (dc d1 (dc d2 (dc d3 dn)))) (kd (kd (kc k0 kn))) ⟨Z,Z,Z,Z,Z,Z,Z,Z,Z,Z,eqI (by omega),trivial⟩ ?_
 rintro i; dsimp only; rintro hi
 refine jq (jr (js (jlss Z Z) (jn (jx (jq ?_)))))
 refine jif Z (fun hc6 => ?_) (fun hc6 => ?_)
 refine jsk (jx (jq (jb (jq (jr (jm Z (js (jix U58 Z67 (rBlock.cI d0) Z Z Z (by omega)) (jA sIns (jlA (dix (rBlock.cI d0) i (by omega)) A67 Z67 Z) fun c145 => jalc J67 Z fun g18 => ja Z (jdq (rIns.c_Args d0) fun q28 w28 => ?_)))))))))
 refine jsta k0 Z67 Z Z Z ⟨Z,Z,Z,w28.one,Z,trivial⟩ (saf Z) (jn (jx (jq (jr (js (jf F67_3 Z) (js (jl k0 O22 Z Z) (js (jln U22 (rIns.c_Args d0) Z) (jm Z (jn (jx (jb ?_)))))))))))
 refine jlp (fun (j : Nat) => ⟨j ≤ (ix (ix f.Blocks k).Ins i).Args.length,[da rIns (vIns (ix ((ix f.Blocks k).Ins) i) c145) (ix ((ix f.Blocks k).Ins) i),da rBlock (vBlock (ix f.Blocks k) (c60a,c60b,c60c,c60d)) (ix f.Blocks k),dv (rL (rI .i64)) c48.1 c48.2,dv (rL (rL (rI .i64))) v46 (predsG (graphF f)),da rFunc (vFunc f cf) f],[bx g9 62 [c60a,c60b,.int .i64 (((ix f.Blocks k).Term).Kind),c60c,c60d,.int .i32 (((ix f.Blocks k).Term).Imm)],bx g6 22 [c48.1],bx g1 176 [.pointer (some ⟨g0,0,none⟩)],bx g0 179 [.int .i64 f.Params,cf,.map (some gm)],im gm (bkA f.Blocks f.Blocks.length)],[(1,.pointer (some ⟨g1,0,none⟩)),(5,v46),(7,.func (.func 169) #[] #[.pointer (some ⟨g1,0,none⟩),.pointer (some ⟨g6,0,none⟩)]),(8,.int .i64 (↑k)),(9,.pointer (some ⟨g9,0,none⟩)),(17,.int .i64 (↑i)),(54,cf),(55,.int .i64 (↑(List.length f.Blocks))),(56,.int .i64 (↑k)),(139,c60b),(140,.int .i64 (↑(List.length ((ix f.Blocks k).Ins)))),(141,.int .i64 (↑i)),(147,c145),(148,.int .i64 (↑(List.length ((ix ((ix f.Blocks k).Ins) i).Args)))),(149,.int .i64 (↑j))],(ix (ix f.Blocks k).Ins i).Args.length - j⟩) 0 (Nat.zero_le _) (dc d0 (dc d1 (dc d2 (dc d3 (dc d4 dn))))) (kc k1 (kc k1 (kc k1 (kc k1 (kc k1 kn))))) ⟨Z,Z,Z,Z,Z,Z,Z,Z,Z,Z,Z,Z,Z,Z,eqI (by omega),trivial⟩ ?_
 rintro j; dsimp only; rintro hj
 refine jq (jr (js (jlss Z Z) (jn (jx (jq ?_)))))
 refine jif Z (fun hc7 => ?_) (fun hc7 => ?_)
 have hu9 := hG.ui k hb i (by omega) _ (ix_mem (l := (ix (ix f.Blocks k).Ins i).Args) (i := j) (by omega))
 refine jsk (jx (jq (jb (jq (jr (js (jix U22 Z3 (rIns.c_Args d0) Z Z Z (by omega)) (js (jlI (dix (rIns.c_Args d0) j (by omega)) O3 Z) (ja Z (jn (jx (jr ?_)))))))))))
 refine jm Z (jm Z (jm Z (jm Z (jm Z (jm Z (jc E169 Z Z (kUse_ct (f := f) _ _ _ _ _ hG rfl hdg ⟨by omega,by omega⟩ hu9) (dc d4 (dc d2 dn)) (kc k3 (kc k3 (kc k2 (kc k1 kn)))) (fun _ => p0) (fun _ => p4) fun _ => jn (jbn (jx (jr (js (jadd Z Z (by omega)) ?_))))))))))
 refine jm Z (jn ?_)
 exact jag (j + 1) (by dsimp only; omega) (dc d0 (dc d1 (dc d2 (dc d3 (dc d4 dn))))) (kc k4 (kc k3 (kc k2 (kd kn)))) ⟨Z,Z,Z,Z,Z,Z,Z,Z,Z,Z,Z,Z,Z,Z,eqI (by omega),trivial⟩
 refine jex (jtx (jtx (jbh (jbn (jx (jr (js (jadd Z Z (by omega)) (jm Z (jn ?_)))))))))
 exact jag (i + 1) (by dsimp only; omega) (dc d1 (dc d2 (dc d3 (dc d4 dn)))) (kd (kd (kc k0 kn))) ⟨Z,Z,Z,Z,Z,Z,Z,Z,Z,Z,eqI (by omega),trivial⟩
 refine jex (jtx (jtx (jbh (jx (jq (jr (js (jf F62_2 Z) (js (jf F60_1 Z) (js (jl k0 O22 Z Z) (js (jln U22 (rBlock.c_Term_Args d0) Z) (jm Z ?_)))))))))))
 refine jn (jx (jb ?_))
 refine jlp (fun (j : Nat) => ⟨j ≤ (ix f.Blocks k).Term.Args.length,[da rBlock (vBlock (ix f.Blocks k) (c60a,c60b,c60c,c60d)) (ix f.Blocks k),dv (rL (rI .i64)) c48.1 c48.2,dv (rL (rL (rI .i64))) v46 (predsG (graphF f)),da rFunc (vFunc f cf) f],[bx g9 62 [c60a,c60b,.int .i64 (((ix f.Blocks k).Term).Kind),c60c,c60d,.int .i32 (((ix f.Blocks k).Term).Imm)],bx g6 22 [c48.1],bx g1 176 [.pointer (some ⟨g0,0,none⟩)],bx g0 179 [.int .i64 f.Params,cf,.map (some gm)],im gm (bkA f.Blocks f.Blocks.length)],[(1,.pointer (some ⟨g1,0,none⟩)),(5,v46),(7,.func (.func 169) #[] #[.pointer (some ⟨g1,0,none⟩),.pointer (some ⟨g6,0,none⟩)]),(8,.int .i64 (↑k)),(9,.pointer (some ⟨g9,0,none⟩)),(54,cf),(55,.int .i64 (↑(List.length f.Blocks))),(56,.int .i64 (↑k)),(164,c60c),(165,.int .i64 (↑(List.length (((ix f.Blocks k).Term).Args)))),(166,.int .i64 (↑j))],(ix f.Blocks k).Term.Args.length - j⟩) 0 (Nat.zero_le _) (dc d0 (dc d1 (dc d2 (dc d3 dn)))) (kd (kd (kc k0 kn))) ⟨Z,Z,Z,Z,Z,Z,Z,Z,Z,Z,eqI (by omega),trivial⟩ ?_
 rintro j; dsimp only; rintro hj
 refine jq (jr (js (jlss Z Z) (jn (jx (jq ?_)))))
 refine jif Z (fun hc8 => ?_) (fun hc8 => ?_)
 have hu9 := hG.ut k hb _ (ix_mem (l := (ix f.Blocks k).Term.Args) (i := j) (by omega))
 refine jsk (jx (jq (jb (jq (jr (js (jix U22 Z3 (rBlock.c_Term_Args d0) Z Z Z (by omega)) (js (jlI (dix (rBlock.c_Term_Args d0) j (by omega)) O3 Z) (ja Z (jn (jx (jr ?_)))))))))))
 refine jm Z (jm Z (jm Z (js (jf F62_1 Z) (js (jl k0 O58 Z Z) (js (jln U58 (rBlock.cI d0) Z) (js (jf F62_1 Z) (js (jl k0 O58 Z Z) (js (jln U58 (rBlock.cI d0) Z) (jm Z (jc E169 Z Z (kUse_ct (f := f) _ _ _ _ _ hG rfl hdg ⟨by omega,by omega⟩ hu9) (dc d3 (dc d1 dn)) (kc k3 (kc k3 (kc k2 (kc k1 kn)))) (fun _ => p0) (fun _ => p4) fun _ => jn ?_))))))))))
 refine jbn (jx (jr (js (jadd Z Z (by omega)) (jm Z (jn ?_)))))
 exact jag (j + 1) (by dsimp only; omega) (dc d0 (dc d1 (dc d2 (dc d3 dn)))) (kc k4 (kc k3 (kc k2 (kd kn)))) ⟨Z,Z,Z,Z,Z,Z,Z,Z,Z,Z,eqI (by omega),trivial⟩
 refine jex (jtx (jtx (jbh (jbn (jx (jr (js (jadd Z Z (by omega)) (jm Z (jn ?_)))))))))
 exact jag (k + 1) (by dsimp only; omega) (dc d1 (dc d2 (dc d3 dn))) (kc k1 (kc k1 (kc k1 (kc k1 kn)))) ⟨Z,Z,Z,Z,Z,eqI (by omega),trivial⟩
 refine jex (jtx (jtx (jbh ?_)))
 exact jd0 Z () Z dn (fun _ _ => (kc k2 (kc k2 kn)))
end Go.Proofs.YtmfkkodnghambaaGreat
namespace Go.JE
variable {P : Program} {n : Fs} {w0 : World} {Q : Exit → Act → World → Prop} {e : Env} {H : Heap}
theorem resolve_fn {ρ : Operand → Value} {x : Operand} {t : TypeId} {f : FuncId} {lb : Array Value} (h : ρ x = .func (.func f) #[] lb) (w : World) : (resolve ρ { callee := .value x,args := #[],argTypes := #[] } t).run P w = .ok { target := .fn (.func f) lb,args := #[] } w := by
 simp [resolve,h,Deferred.ofValue]
theorem LF.dfr {ops : Array Oper} {x : Operand} {ty : TypeId} {pos : String} {af : Array Edge} {rest : List Oper} {f : FuncId} {lb : Array Value} (hx : ev e x = some (.func (.func f) #[] lb))
   (K : LF P ⟨n.sz,{ target := .fn (.func f) lb,args := #[] } :: n.ds⟩ w0 ops Q e rest H) : LF P n w0 ops Q e (⟨none,.defer { callee := .value x,args := #[],argTypes := #[] },ty,pos,af,none⟩ :: rest) H := by
 intro a w hf hw
 refine wpList_plain rfl fun K' hK' => ?_
 unfold Oper.wp
 have hr : (execOp a.eval ⟨none,.defer { callee := .value x,args := #[],argTypes := #[] },ty,pos,af,none⟩).run P w = .ok (.defer { target := .fn (.func f) lb,args := #[] }) w := by
   simp [execOp,resolve_fn (hf.ev hx)]
 rw [hr]
 exact hK' _ _ (K _ _ ⟨hf.size,by show _ :: a.defers = _; rw [hf.defers],hf.get⟩ hw)
theorem invoke_fn {f : FuncId} {lb : Array Value} (hE : Ent P f) (w : World) : (invoke (.fn (.func f) lb) #[]).run P w = .ok (.enter f lb) w := by
 simp only [invoke]
 rw [show (#[] ++ lb : Array Value) = lb by simp]
 exact hE.run lb w
theorem OpOk.eqlIf {T T' : TypeId} {x : Operand} (hT : P.underlying T = some (.interface #[])) (hx : ev e x = some .nilIface) : OpOk P e (.binOp .eql T x (.const .nilIface) T') H (.bool true) := by
 intro ρ o w ho hev _
 have h1 : ∀ d,(Op.equalIn (d + 1) T .nilIface .nilIface).run P w = .ok true w := fun d => by
   simp only [Op.equalIn,Sem.run_bind,run_underlying hT,Result.andThen_ok]; rfl
 have h2 : (Op.equal T .nilIface .nilIface).run P w = .ok true w := h1 9999
 have h3 : ∀ d,(Op.eqGuardIn (d + 1) T .nilIface .nilIface).run P w = .ok false w := fun d => by
   simp only [Op.eqGuardIn,Sem.run_bind,run_underlying hT,Result.andThen_ok]; rfl
 have hy : ρ (.const .nilIface) = .nilIface := hev _ _ rfl
 simp only [execOp,ho,hev _ _ hx,hy,eqGuard,binOp]
 simp [h2,h3]
theorem callsD_quiet {f : FuncId} {fn : Func} {args : List Value} {id d m : Nat} {ty : TypeId} {pos : String} {af : Array Edge} {c : Code} {R : Value → Heap → Prop} {w : World} (hf : P.funcs[f]? = some fn)
   (hb : fn.body = some (.seq (.region id #[⟨some d,.call { callee := .builtin .recover,args := #[],argTypes := #[] },ty,pos,af,none⟩] false) c)) (hn : fn.ntmps = m) (ha : Nat.ble args.length m = true) (hd : Nat.blt d m = true)
   (h : CF P ⟨m,[]⟩ w (BQ P fn w R) ((d,.nilIface) :: number 0 args) c w.heap) :
   CallsD P f args.toArray .returning w fun x u' w' => u' = .returning ∧ ∃ v,x = .returned v ∧ w'.os = w.os ∧ w'.tape = w.tape ∧ w'.output = w.output ∧ R v w'.heap := by
 refine callsD_of_wpS hf hb fun c₀ cs hu => wpS_seq (wpS_region ?_)
 have hl : List.range (#[(⟨some d,.call { callee := .builtin .recover,args := #[],argTypes := #[] },ty,pos,af,none⟩ : Oper)]).size = [0] := rfl
 rw [hl]
 have ha' : args.length ≤ m := by simpa [Nat.ble_eq] using ha
 have hfr : Fr ⟨m,[]⟩ (number 0 args) { tmps := args.toArray ++ Array.replicate (fn.ntmps - args.toArray.size) undef,defers := [] } := by
   refine ⟨by simp [hn]; omega,rfl,fun t v hv => ?_⟩
   obtain ⟨i,h1,h2⟩ := lk_number args 0 t v hv
   have hi : i < args.length := (List.getElem?_eq_some_iff.1 h2).1
   have e1 : t = i := by omega
   subst e1
   simp only [Array.getD_eq_getD_getElem?]
   rw [Array.getElem?_append_left (by simpa using hi)]
   simp [h2]
 have hrun : ∀ ρ,(execOp ρ (⟨some d,.call { callee := .builtin .recover,args := #[],argTypes := #[] },ty,pos,af,none⟩ : Oper)).run P w = .ok .recover w := fun ρ => by
   simp [execOp,resolve,invoke,builtin]
 have hrec : recoverD (c₀ :: cs) = none := by simp [recoverD,hu]
 simp only [wpOpsS,List.getElem?_toArray,List.getElem?_cons_zero,Region.wanted,if_true,hrun,hrec]
 have h2 := h _ _ (hfr.put hd .nilIface) ⟨rfl,rfl,rfl,rfl⟩
 refine wpS_of_wp (Code.wp_mono ?_ h2)
 intro x a' w' hq
 cases x with
 | normal => obtain ⟨h1,v,h3,h4⟩ := hq; exact ⟨h1,.returning,by rw [← hu],v,h3,rfl,v,rfl,by obtain ⟨_,e,h5⟩ := h4; injection e with e; subst e; exact h5⟩
 | ret => obtain ⟨h1,v,h3,h4⟩ := hq; exact ⟨h1,.returning,by rw [← hu],v,h3,rfl,v,rfl,by obtain ⟨_,e,h5⟩ := h4; injection e with e; subst e; exact h5⟩
 | panic ch => obtain ⟨_,_,e,_⟩ := hq; cases e
 | exit i => exact hq
 | goto l => exact hq
 | outgrown => obtain ⟨_,e,_⟩ := hq; cases e
def BQD (P : Program) (fn : Func) (w0 : World) (R : Value → Heap → Prop) : Exit → Act → World → Prop :=
 bodyPostD P fn fun x w' => ∃ v,x = .returned v ∧ w'.os = w0.os ∧ w'.tape = w0.tape ∧ w'.output = w0.output ∧ R v w'.heap
theorem Ct.enterD {f : FuncId} {fn : Func} {c : Code} {args : List Value} {m : Nat} {R : Value → Heap → Prop} (hf : P.funcs[f]? = some fn) (hb : fn.body = some c) (hn : fn.ntmps = m) (ha : Nat.ble args.length m = true)
   (h : ∀ w0 : World,w0.heap = H → CF P ⟨m,[]⟩ w0 (BQD P fn w0 R) (number 0 args) c H) : Ct P f args.toArray H R := by
 intro w hw
 refine calls_of_wp_defers hf hb ?_
 have ha' : args.length ≤ m := by simpa [Nat.ble_eq] using ha
 refine h w hw _ w ⟨by simp [hn]; omega,rfl,fun t v hv => ?_⟩ ⟨hw,rfl,rfl,rfl⟩
 obtain ⟨i,h1,h2⟩ := lk_number args 0 t v hv
 have hi : i < args.length := (List.getElem?_eq_some_iff.1 h2).1
 have e1 : t = i := by omega
 subst e1
 simp only [Array.getD_eq_getD_getElem?]
 rw [Array.getElem?_append_left (by simpa using hi)]
 simp [h2]
theorem results_cell3 {fn : Func} {p q r g g' g'' : Nat} {ty ty' ty'' : TypeId} {v v' v'' : Value} (h : fn.results = #[.cell p ty,.cell q ty',.cell r ty'']) (tmps : Array Value) (w : World) (hp : tmps.getD p undef = .pointer (some ⟨g,0,none⟩)) (hO : One P ty) (hc : w.cell? ⟨g,0,none⟩ = some v)
   (hp' : tmps.getD q undef = .pointer (some ⟨g',0,none⟩)) (hO' : One P ty') (hc' : w.cell? ⟨g',0,none⟩ = some v') (hp'' : tmps.getD r undef = .pointer (some ⟨g'',0,none⟩)) (hO'' : One P ty'') (hc'' : w.cell? ⟨g'',0,none⟩ = some v'') :
   (results fn tmps).run P w = .ok (.tuple #[v,v',v'']) w := by
 have h1 : tmps[p]?.getD undef = .pointer (some ⟨g,0,none⟩) := by simpa using hp
 have h2 : tmps[q]?.getD undef = .pointer (some ⟨g',0,none⟩) := by simpa using hp'
 have h3 : tmps[r]?.getD undef = .pointer (some ⟨g'',0,none⟩) := by simpa using hp''
 simp [results,h,h1,h2,h3,asAddr,loadVar,hO.run,hO'.run,hO''.run,hc,hc',hc'']
theorem PF.retD {fn : Func} {m f : Nat} {lb : Array Value} {R : Value → Heap → Prop} {v : Value} (hE : Ent P f) (hc : ∀ w : World,w.heap = H → CallsD P f lb .returning w fun x u' w' => u' = .returning ∧ ∃ v',x = .returned v' ∧ w'.os = w.os ∧ w'.tape = w.tape ∧ w'.output = w.output ∧ w'.heap = H)
   (hr : ∀ (a : Act) (w : World),Fr ⟨m,[{ target := .fn (.func f) lb,args := #[] }]⟩ e a → w.heap = H → (results fn a.tmps).run P w = .ok v w) (hR : R v H) : PF ⟨m,[{ target := .fn (.func f) lb,args := #[] }]⟩ w0 (BQD P fn w0 R) e .ret H := by
 intro a w hf hw
 show Leaves P fn a.tmps _ a.defers .returning w
 rw [hf.defers]
 refine leaves_cons (by simp) (invoke_fn hE w) ((hc w hw.heap).mono ?_)
 rintro x u' w' ⟨rfl,v',rfl,h1,h2,h3,h4⟩
 exact ⟨v,hr a w' hf h4,v,rfl,h1.trans hw.os,h2.trans hw.tape,h3.trans hw.output,h4 ▸ hR⟩
section
variable {f : FuncId} {fn : Func} {c : Code} {args : List Value} {D D0 : List Dt} {L L0 M : List Res} {X : Cx} {ι : Type} {val : ι → Value} {dr : ι → List Dt} {lr : Nat → ι → List Res}
def RQD (P : Program) (fn : Func) (w0 : World) (X : Cx) {ι : Type} (val : ι → Value) (dr : ι → List Dt) (lr : Nat → ι → List Res) : Exit → Act → World → Prop := BQD P fn w0 (fun v H' => ∃ i F',v = val i ∧ ∀ B,B ≤ X.n → Hp X (dr i) (lr B i) F' H')
theorem jenterD {m : Nat} (hf : P.funcs[f]? = some fn) (hb : fn.body = some c) (hn : fn.ntmps = m) (ha : Nat.ble args.length m = true)
   (h : ∀ (w0 : World) (X : Cx),CH P ⟨m,[]⟩ w0 (RQD P fn w0 X val dr lr) X D0 L0 (number 0 args) c) : Tr P f args.toArray D0 L0 val dr lr := fun F H hin hd ho =>
 Ct.enterD hf hb hn ha fun w0 hw => h w0 ⟨Own L0,H,F⟩ F H ⟨PH.ext.refl F,hin,Kw.refl _ _,hd,ho,fun k hk => .inr hk⟩
theorem jdf {ops : Array Oper} {x : Operand} {ty : TypeId} {pos : String} {af : Array Edge} {rest : List Oper} {f : FuncId} {lb : Array Value} (hx : ev e x = some (.func (.func f) #[] lb))
   (K : LH P ⟨n.sz,{ target := .fn (.func f) lb,args := #[] } :: n.ds⟩ w0 ops Q X D L e rest) : LH P n w0 ops Q X D L e (⟨none,.defer { callee := .value x,args := #[],argTypes := #[] },ty,pos,af,none⟩ :: rest) := fun F H hp => LF.dfr hx (K F H hp)
theorem jrD3 {m f' : Nat} {lb : Array Value} {p q r g g' g'' : Nat} {ty ty' ty'' T T' T'' : TypeId} {v v' v'' : Value} {N N' N'' : List Res} (hr : fn.results = #[.cell p ty,.cell q ty',.cell r ty'']) (hv : lk e p = some (.pointer (some ⟨g,0,none⟩))) (hv' : lk e q = some (.pointer (some ⟨g',0,none⟩))) (hv'' : lk e r = some (.pointer (some ⟨g'',0,none⟩)))
   (hb : Tk L (bx g T [v]) N) (hO : One P ty) (hb' : Tk L (bx g' T' [v']) N') (hO' : One P ty') (hb'' : Tk L (bx g'' T'' [v'']) N'') (hO'' : One P ty'') (hE : Ent P f')
   (hc : ∀ w : World,CallsD P f' lb .returning w fun x u' w' => u' = .returning ∧ ∃ v',x = .returned v' ∧ w'.os = w.os ∧ w'.tape = w.tape ∧ w'.output = w.output ∧ w'.heap = w.heap)
   (i : ι) (hm : .tuple #[v,v',v''] = val i) (hd : Sd D L (dr i)) (hk : ∀ B,B ≤ X.n → Tks L (lr B i) M) : QH ⟨m,[{ target := .fn (.func f') lb,args := #[] }]⟩ w0 (RQD P fn w0 X val dr lr) X D L e .ret := fun F H hp =>
 PF.retD hE (fun w hw => by have h := hc w; rw [hw] at h; exact h) (fun a w hf hw => results_cell3 hr _ w (hf.get p _ hv) hO (by rw [cell_hc,hw]; exact (hp.at hb).1.hc rfl) (hf.get q _ hv') hO' (by rw [cell_hc,hw]; exact (hp.at hb').1.hc rfl) (hf.get r _ hv'') hO'' (by rw [cell_hc,hw]; exact (hp.at hb'').1.hc rfl)) ⟨i,F,hm,fun B hB => hp.sub hd (hk B hB)⟩
end
end Go.JE
namespace Go.Proofs.YtmfkkodnghambaaGreat
open Go.JE
abbrev U20 := @Tryz.underlying20
theorem E112 : Ent Tryz.prog 112 := ⟨_,Tryz.func112,by kernel_rfl,by kernel_rfl⟩
theorem E115 : Ent Tryz.prog 115 := ⟨_,Tryz.func115,by kernel_rfl,by kernel_rfl⟩
theorem E116 : Ent Tryz.prog 116 := ⟨_,Tryz.func116,by kernel_rfl,by kernel_rfl⟩
theorem E59 : Ent Tryz.prog 59 := ⟨_,Tryz.func59,by kernel_rfl,by kernel_rfl⟩
theorem O89 : One Tryz.prog 89 := ⟨_,Tryz.underlying89,rfl⟩
theorem Z89 : Sz Tryz.prog 89 1 := by unfold Sz; kernel_rfl
theorem J3 : (Tryz.prog.info? 3).bind (·.zero) = some (.int .i64 0) := by kernel_rfl
theorem J89 : (Tryz.prog.info? 89).bind (·.zero) = some (.int .i64 0) := by kernel_rfl
set_option maxRecDepth 4000
theorem recov_ct (g2 g3 g4 : Nat) (w : World) : CallsD Tryz.prog 112 #[.pointer (some ⟨g2,0,none⟩),.pointer (some ⟨g3,0,none⟩),.pointer (some ⟨g4,0,none⟩)] .returning w fun x u' w' => u' = .returning ∧ ∃ v',x = .returned v' ∧ w'.os = w.os ∧ w'.tape = w.tape ∧ w'.output = w.output ∧ w'.heap = w.heap := by
 refine (callsD_quiet (args := [.pointer (some ⟨g2,0,none⟩),.pointer (some ⟨g3,0,none⟩),.pointer (some ⟨g4,0,none⟩)]) (R := fun _ H' => H' = w.heap) Tryz.func112 rfl rfl rfl rfl ?_)
 exact CF.block (CF.seq (CF.region (LF.step (OpOk.eqlIf U20 rfl) (LF.nil (PF.next (CF.cond rfl (fun _ => CF.region (LF.step (OpOk.assign rfl) (LF.nil (PF.blockNormal (PF.end0 rfl rfl))))) (fun h => by cases h)))))))
set_option maxHeartbeats 1000000 in
theorem kFunc_ct {a0 : Value} {f : D.Func} (hG : GoodF f) : Tv Tryz.prog 59 #[vFunc f a0] [da rFunc (vFunc f a0) f] [] (.tuple #[.int .i64 0,.int .i64 0,.int .i64 0]) := by
 refine jenterD (args := [vFunc f a0]) Tryz.func59 rfl rfl rfl fun w0 X => ?_
 have hln := hG.len
 have hpr := hG.par
 refine jq (jr (jbox Z Z fun g1 => jalc J89 Z fun g2 => jalc J3 Z fun g3 => jalc J3 Z fun g4 => jn (jx (jq (jr (js (jmf3 Z Z Z) (jdf Z ?_)))))))
 refine jn (jx (jq (jr (js (jf F49_0 Z) (js (jl k3 O3 Z Z) (jcv E114 Z Z (within_ct f.Params 0 4) dn kn (jc E113 Z Z (must_ct _ 1 0 0 (within_of hpr)) dn kn (fun _ => p0) (fun _ => p0) fun _ => jn (jx (jq (jr ?_))))))))))
 refine js (jf F49_1 Z) (js (jl k3 O47 Z Z) (jdq (rFunc.cB d0) fun q1 w1 => js (jln U47 (rFunc.cB d0) Z) (js (jgtr Z Z) (jc E113 Z Z (must_ct _ 14 0 0 (by simp; omega)) dn kn (fun _ => p0) (fun _ => p0) fun _ => jn (jx (jq (jr (js (jf F49_1 Z) (js (jl k3 O47 Z Z) ?_)))))))))
 refine js (jln U47 (rFunc.cB d0) Z) (ja Z (jn (jx (jq (jq (jr (js (jf F49_1 Z) (js (jl k3 O47 Z Z) (js (jln U47 (rFunc.cB d0) Z) (jm Z (jn ?_)))))))))))
 refine jx (jb ?_)
 refine jlp (u2 fun (k : Nat) (s : Int) => ⟨k ≤ f.Blocks.length ∧ s = ((f.Blocks.length + cntF3 (f.Blocks.take k) : Nat) : Int),[da rFunc (vFunc f a0) f],[bx g4 3 [.int .i64 0],bx g3 3 [.int .i64 0],bx g2 89 [.int .i64 0],bx g1 49 [.int .i64 f.Params,a0]],[(1,.pointer (some ⟨g1,0,none⟩)),(2,.pointer (some ⟨g2,0,none⟩)),(3,.pointer (some ⟨g3,0,none⟩)),(4,.pointer (some ⟨g4,0,none⟩)),(5,.int .i64 s),(23,a0),(24,.int .i64 (↑(List.length f.Blocks))),(25,.int .i64 (↑k))],f.Blocks.length - k⟩) (0,(f.Blocks.length : Int)) ⟨by dsimp only; omega,by dsimp only; simp [cntF3]⟩ (dc d0 dn) (kd (kd kn)) ⟨Z,Z,Z,Z,eqI (by omega),Z,Z,eqI (by omega),trivial⟩ ?_
 rintro ⟨k,s⟩; dsimp only [u2]; rintro ⟨hk,hs⟩
 have hs9 := cntF3_le f.Blocks k
 have hcn := hG.cnt
 refine jq (jr (js (jlss Z Z) (jn (jx (jq ?_)))))
 refine jif Z (fun hc1 => ?_) (fun hc1 => ?_)
 have hb9 := cntF3_nx (bs := f.Blocks) (k := k) (by omega)
 have hb8 := cntF3_le f.Blocks (k + 1)
 refine jsk (jx (jq (jb (jq (jr (js (jix U47 Z62 (rFunc.cB d0) Z Z Z (by omega)) (jA4 sBlock (jlA (dix (rFunc.cB d0) k (by omega)) A62 Z62 Z) fun c28a c28b c28c c28d => jalc J62 Z fun g7 => jdq (rBlock.cP d0) fun q3 w3 => jdq (rBlock.cI d0) fun q4 w4 => jdq (rBlock.c_Term_Args d0) fun q5 w5 => ?_)))))))
 refine jdq (rBlock.c_Term_To d0) fun q6 w6 => jsta k0 Z62 Z Z Z ⟨w3.one,w4.one,Z,w5.one,w6.one,Z,trivial⟩ (saf Z) (jn (jx (jr (jm Z (js (jf F62_0 Z) (js (jl k0 O57 Z Z) (js (jln U57 (rBlock.cP d0) Z) (js (jf F62_1 Z) (js (jl k0 O58 Z Z) (js (jln U58 (rBlock.cI d0) Z) ?_))))))))))
 refine js (jadd Z Z (by omega)) (js (jadd Z Z (by omega)) (ja Z (jn (jbn (jx (jr (js (jadd Z Z (by omega)) (jm Z (jn ?_)))))))))
 exact jag (k + 1,s + ((((List.length ((ix f.Blocks k).Phis) : Nat) : Int)) + (((List.length ((ix f.Blocks k).Ins) : Nat) : Int)))) ⟨by dsimp only; omega,by dsimp only; rw [hs,cntF3_nx (by omega)]; omega⟩ (dc d1 dn) (kc k1 (kc k1 (kc k1 (kc k1 kn)))) ⟨Z,Z,Z,Z,eqI (by omega),Z,Z,eqI (by omega),trivial⟩
 have hsn : s = ((f.Blocks.length + cntF3 f.Blocks : Nat) : Int) := by rw [hs,List.take_of_length_le (by omega)]
 refine jex (jtx (jtx (jbh (jx (jq (jr (js (jf F49_1 Z) (js (jl k3 O47 Z Z) (js (jln U47 (rFunc.cB d0) Z) (js (jleq Z Z) (jm Z ?_)))))))))))
 refine jg Z Z (.t _) (fun hg => jmv Z) (jg Z Z (.t _) (fun hg => jleq (evg Z hg) Z) (js (jand Z Z) (jc E113 Z Z (must_ct _ 2 0 0 (by simp; omega)) dn kn (fun _ => p0) (fun _ => p0) fun _ => jn (jx (jq (jr (js (jla k3 A49 Z49 Z Z Z) (jmm fun g49 => js (jbu (v := .agg #[.int .i64 f.Params,a0,.map (some g49)]) Z (fun _ => by obtain ⟨_,_,_,rfl⟩ := w1; kernel_rfl)) (jbox Z Z fun g51 => ?_)))))))))
 refine ja Z (jn (jx (jq (jr (jm Z (jc E115 Z Z (kShape_ct (f := f) hG rfl) (dc d0 dn) (kd kn) (fun _ => p0) (fun _ => p2) fun _ => jn (jx (jq (jr (jm Z ?_))))))))))
 refine jc E116 Z Z (kUses_ct (f := f) hG rfl) (dc d0 dn) (kd kn) (fun _ => p0) (fun _ => p2) fun _ => jn (jx (jq (jr (jst k4 Z89 Z Z Z s0 (jst k4 Z3 Z Z Z s0 (jst k4 Z3 Z Z Z s0 (jn (jx (jrt ?_)))))))))
 exact jrD3 Z Z Z Z k2 O89 k1 O3 k0 O3 E112 (recov_ct g2 g3 g4) () Z dn (fun _ _ => kn)
theorem kRight_ct {a0 : Value} {f : D.Func} (hG : GoodF f) : Tv Tryz.prog 26 #[vFunc f a0] [da rFunc (vFunc f a0) f] [] (.bool true) := by
 refine jenter (args := [vFunc f a0]) Tryz.func26 rfl rfl rfl fun w0 X => ?_
 refine jq (jr (jbox Z Z fun g1 => ja Z (jn (jx (jq (jr (js (jla k0 A49 Z49 Z Z Z) (jcv E59 Z Z (kFunc_ct hG) (dc d0 dn) kn (jm Z (js (jex' Z Z) ?_))))))))))
 refine js (jex' Z Z) (js (jex' Z Z) (ja Z (ja Z (ja Z (jn (jx (jq (jr (jm Z (js (jeql Z Z) (ja Z ?_)))))))))))
 refine jn (jx (jrt ?_))
 exact jrB Z Z (by simp)
end Go.Proofs.YtmfkkodnghambaaGreat
