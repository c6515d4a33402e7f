/- More of the colouring's state. Conditions: none. -/
import Derived.Test.YtkhphpobccnodaaFg
namespace Go.Proofs.Ytkhphpobccnodaa
open Go.JE

theorem Try.zero46 : (Try.prog.info? 46).bind (·.zero) = some (.slice none 0 0) := by kernel_rfl
theorem Try.zero22 : (Try.prog.info? 22).bind (·.zero) = some (.slice none 0 0) := by kernel_rfl
theorem Try.zero36 : (Try.prog.info? 36).bind (·.zero) = some (.slice none 0 0) := by kernel_rfl
theorem Try.sz46 : Sz Try.prog 46 1 := by unfold Sz; kernel_rfl

theorem OpOk.eqv {P : Program} {e : Env} {op : Op} {H : Heap} {v v' : Value} (h : OpOk P e op H v) (hv : v = v') : OpOk P e op H v' := hv ▸ h
theorem boxNew {H : Heap} {T : TypeId} {z v : Value} (hz : z.cells.size = 1) : Rw (setc (H.push (.cells z.cells T)) H.size 0 v) H.size T 1 (fun _ => v) ∧ Kp H.size H (setc (H.push (.cells z.cells T)) H.size 0 v) ∧ (setc (H.push (.cells z.cells T)) H.size 0 v).size = H.size + 1 := by
  refine ⟨?_, ((Kp.refl _ _).push (Nat.le_refl _) _).setc (Nat.le_refl _), by rw [size_setc]; simp⟩
  have h := Rw.new (H := H) (c := z.cells) (T := T)
  rw [hz] at h
  exact h.set.congr (fun i hi => by rw [if_pos (by omega)])
theorem len_ad {e : Env} {H : Heap} {x : Operand} {b n a : Nat} {f : Nat → Nat → Bool} (h : Ad H b n (f a)) (hx : ev e x = some (.map (some b))) : OpOk Try.prog e (.call { callee := .builtin .len, args := #[x], argTypes := #[35] }) H (.int .i64 (degS f (fun _ => true) a n)) := by
  obtain ⟨L, h1, h2⟩ := h
  rw [← h2.len h1.nodup]
  exact OpOk.len_map Try.underlying35 h1 hx

def sndv {n : Nat} (x : Nat × Fin n) : Nat := x.2.val
/-- all blocks of the state lie below X -/
structure CSlt (z : Bl) (n : Nat) (r : Nat → Nat) (X : Nat) : Prop where
  bs : z.bn < X ∧ z.bk < X ∧ z.bg < X ∧ z.bd < X ∧ z.bo < X ∧ z.bq < X ∧ z.gb < X ∧ z.d < X ∧ z.o < X ∧ z.q < X
  rs : ∀ i, i < n → r i < X
section
variable {H H' : Heap} {B : Nat} {z : Bl} {n : Nat} {k : Int} {r : Nat → Nat} {F : Nat → Nat → Bool} {deg out deg' out' : Nat → Int} {gone gone' : Nat → Bool}
theorem CS.lt (h : CS H B z n k r F deg out gone) : CSlt z n r H.size :=
  ⟨⟨h.hn.lt, h.hk.lt, h.hg.lt, h.hd.lt, h.ho.lt, h.hq.lt, h.nw.out.lt, h.rd.lt, h.ro.lt, h.rq.lt⟩, fun i hi => h.nw.lt hi⟩
theorem CS.kpB {X : Nat} (h : CS H B z n k r F deg out gone) (hx : CSlt z n r X) (hk : ∀ b, b < X → H'[b]? = H[b]?) : CS H' B z n k r F deg out gone := by
  obtain ⟨b1, b2, b3, b4, b5, b6, b7, b8, b9, b10⟩ := hx.bs
  exact ⟨h.hn.of (hk _ b1), h.hk.of (hk _ b2), h.hg.of (hk _ b3), h.nw.of (hk _ b7) (fun i hi => hk _ (hx.rs i hi)), h.hd.of (hk _ b4), h.ho.of (hk _ b5), h.hq.of (hk _ b6), h.rd.of (hk _ b8), h.ro.of (hk _ b9), h.rq.of (hk _ b10), h.ord⟩
theorem CS.rne (h : CS H B z n k r F deg out gone) {i : Nat} (hi : i < n) : r i ≠ z.d := by
  intro e1
  obtain ⟨_, L, h2, _⟩ := h.nw.row i hi
  rw [e1] at h2; exact Im.notRw h2 h.rd
theorem CS.sd (h : CS H B z n k r F deg out gone) (hn : n ≤ 8192) : Sl H H.size (.slice (some ⟨z.d, 0, none⟩) n n) 1 n (fun a => .int .i64 (deg a)) := Rw1 h.rd (by omega)
theorem CS.so (h : CS H B z n k r F deg out gone) (hn : n ≤ 8192) : Sl H H.size (.slice (some ⟨z.o, 0, none⟩) n n) 1 n (fun a => .int .i64 (out a)) := Rw1 h.ro (by omega)
theorem CS.sq (h : CS H B z n k r F deg out gone) (hn : n ≤ 8192) : Sl H H.size (.slice (some ⟨z.q, 0, none⟩) n n) 1 n (fun a => .bool (gone a)) := Rw1 h.rq (by omega)
theorem CS.sg (h : CS H B z n k r F deg out gone) (hn : n ≤ 8192) : Sl H H.size (.slice (some ⟨z.gb, 0, none⟩) n n) 1 n (fun a => .map (some (r a))) := Rw1 h.nw.out (by omega)
/-- the state, whatever the rows of numbers hold -/
def CE (H : Heap) (B : Nat) (z : Bl) (n : Nat) (k : Int) (r : Nat → Nat) (F : Nat → Nat → Bool) (gone : Nat → Bool) : Prop := ∃ deg out, CS H B z n k r F deg out gone
theorem CS.ce (h : CS H B z n k r F deg out gone) : CE H B z n k r F gone := ⟨_, _, h⟩
theorem CE.bd (h : CE H B z n k r F gone) : hc H z.bd 0 = some (.slice (some ⟨z.d, 0, none⟩) n n) := by obtain ⟨_, _, h⟩ := h; exact h.hd.cell (i := 0) (by omega)
theorem CE.bo (h : CE H B z n k r F gone) : hc H z.bo 0 = some (.slice (some ⟨z.o, 0, none⟩) n n) := by obtain ⟨_, _, h⟩ := h; exact h.ho.cell (i := 0) (by omega)
theorem CE.bg (h : CE H B z n k r F gone) : hc H z.bg 0 = some (.slice (some ⟨z.gb, 0, none⟩) n n) := by obtain ⟨_, _, h⟩ := h; exact h.hg.cell (i := 0) (by omega)
theorem CE.sd (h : CE H B z n k r F gone) (hn : n ≤ 8192) : ∃ g, Sl H H.size (.slice (some ⟨z.d, 0, none⟩) n n) 1 n g := by obtain ⟨_, _, h⟩ := h; exact ⟨_, h.sd hn⟩
theorem CE.so (h : CE H B z n k r F gone) (hn : n ≤ 8192) : ∃ g, Sl H H.size (.slice (some ⟨z.o, 0, none⟩) n n) 1 n g := by obtain ⟨_, _, h⟩ := h; exact ⟨_, h.so hn⟩
theorem CE.sg (h : CE H B z n k r F gone) (hn : n ≤ 8192) : Sl H H.size (.slice (some ⟨z.gb, 0, none⟩) n n) 1 n (fun a => .map (some (r a))) := by obtain ⟨_, _, h⟩ := h; exact h.sg hn
theorem CE.ad (h : CE H B z n k r F gone) {a : Nat} (ha : a < n) : Ad H (r a) n (F a) := by obtain ⟨_, _, h⟩ := h; exact (h.nw.row a ha).2
end
/-- an element of one cell of a slice of which one knows its length alone -/
theorem OpOk.idxE {P : Program} {e : Env} {H : Heap} {T E : TypeId} {x ix : Operand} {B n i : Nat} {v : Value} {k : IntKind} {I : Int} (hT : P.underlying T = some (.slice E)) (hE : Sz P E 1) (hs : ∃ f, Sl H B v 1 n f) (hx : ev e x = some v) (hi : ev e ix = some (.int k I)) (hI : I = i) (h1 : i < n) :
    OpOk P e (.indexAddr T x ix) H (.pointer (some (elAt v i))) := by obtain ⟨f, hs⟩ := hs; exact OpOk.idx hT hE hs hx hi hI h1

def usedV (out : Nat → Int) (vis : List Int) (c : Int) : Bool := vis.any (fun b => out b.toNat == c)
theorem usedV_snoc (out : Nat → Int) (vis : List Int) (b c : Int) : usedV out (vis ++ [b]) c = (usedV out vis c || out b.toNat == c) := by simp [usedV]
theorem usedS_iff {f : Nat → Nat → Bool} {out : Nat → Int} {a c : Nat} : ∀ {n : Nat}, usedS f out a c n = true ↔ ∃ b, b < n ∧ f a b = true ∧ out b = c
  | 0 => by simp [usedS]
  | n + 1 => by
    simp only [usedS, Bool.or_eq_true, usedS_iff (n := n), Bool.and_eq_true, decide_eq_true_eq]
    constructor
    · rintro (⟨b, h1, h2⟩ | h)
      · exact ⟨b, by omega, h2⟩
      · exact ⟨n, by omega, h⟩
    · rintro ⟨b, h1, h2⟩
      by_cases e1 : b = n
      · subst e1; exact .inr h2
      · exact .inl ⟨b, by omega, h2⟩
theorem usedV_S {f : Nat → Nat → Bool} {out : Nat → Int} {a c n : Nat} {vis : List Int} (h1 : ∀ k ∈ vis, ∃ b : Nat, k = b ∧ b < n ∧ f a b = true) (h2 : ∀ b : Nat, b < n → f a b = true → (b : Int) ∈ vis) : usedV out vis c = usedS f out a c n := by
  rw [Bool.eq_iff_iff, usedS_iff]
  simp only [usedV, List.any_eq_true, beq_iff_eq]
  constructor
  · rintro ⟨k, hk, h3⟩
    obtain ⟨b, rfl, h4, h5⟩ := h1 k hk
    exact ⟨b, h4, h5, by simpa using h3⟩
  · rintro ⟨b, h4, h5, h6⟩
    exact ⟨b, h2 b h4 h5, by simpa using h6⟩
theorem exFin {n : Nat} : ∀ (l : List Nat), (∀ a ∈ l, a < n) → ∃ l' : List (Fin n), l'.map (·.val) = l
  | [], _ => ⟨[], rfl⟩
  | a :: l, h => by
    obtain ⟨l', h1⟩ := exFin l (fun b hb => h b (by simp [hb]))
    exact ⟨⟨a, h a (by simp)⟩ :: l', by simp [h1]⟩
theorem Gr.vblk_lt {H : Heap} {B n s : Nat} {E : TypeId} {v : Value} {xs : List Value} (h : Gr H B E s v n xs) (hpos : 0 < H.size) : vblk v < H.size := by
  rcases h.2 with ⟨rfl, _⟩ | ⟨g, cap, cur, rfl, _, hg, _⟩
  · exact hpos
  · exact (Array.getElem?_eq_some_iff.1 hg).1
theorem Gr.vblk_ge {H : Heap} {B n s : Nat} {E : TypeId} {v : Value} {xs : List Value} (h : Gr H B E s v n xs) (hpos : 0 < n) : B ≤ vblk v := by
  rcases h.2 with ⟨_, rfl⟩ | ⟨g, cap, cur, rfl, hb, hg, _⟩
  · omega
  · exact hb
theorem Gr.cells1 {H : Heap} {B n s : Nat} {E : TypeId} {v : Value} {xs : List Value} (h : Gr H B E s v n xs) : v.cells = #[v] := by
  rcases h.2 with ⟨rfl, _⟩ | ⟨g, cap, cur, rfl, _⟩ <;> rfl
end Go.Proofs.Ytkhphpobccnodaa
