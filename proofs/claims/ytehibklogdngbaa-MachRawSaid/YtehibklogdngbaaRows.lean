/-
  No cell of these rows narrows 'for every input' (looked for: loops, veiled, ifaces, maps, wideKeys, modest, calm, conditions, laid).
  DERIVED. THE GIVEN ROWS OF THIS SEAT. 5 by the template 'for every input the law returns true; each argument reads behind the call as it read before'; 0 by the template 'total and deterministic' (their statements: YtehibklogdngbaaTotals.lean).
  GIVEN WITH THE SEED: the statements are not yours to turn. If you find one false, say at which input.
  Laid BY PROGRAM, IN A SANDBOX (cutbox-rows.mjs): the forced cells as the released guide's own fill.sh prints them over the translation 3fa27f54b8ccbc97… (all of the seat's roots in one cut). By AI agents, Wed Nov 11 2026. No macro, syntax, notation, axiom, sorry.
-/
import Derived.Test.YtehibklogdngbaaChecked
import GoSem.Claim
import GoSem.ClaimJoined
import GoSem.ClaimMapViews
import Derived.JoinedTies
import Derived.KernelRfl
namespace Go.Proofs.Ytehibklogdngbaa
/- THE CELL 'sum', in the pinned program and in every row, IS THE sha256 OF THE DUMP (.gsa) THAT YtehibklogdngbaaProg.lean LOADS. Nothing in Lean hashes anything: it is a label: what it is worth is what the hold of that sum in a sandbox is worth. -/
noncomputable def Try.pinned : Pinned := { name := "ytehibklogdngbaa", sum := "3fa27f54b8ccbc97e5e1767407576bf9746e95994671a85973c551bf36979611", checked := Try.checked }
namespace Rows
def none {H : Type} : Left H := { results := [], args := [] }

/-- 'jacquardlaw07.MachRaw': WHATEVER THE INPUT: true; the input reads as it did. -/
def machRawSpec : ChangeSpec := { name := "machRaw", fn := fun _ => fun
  | [d1, d2] => { results := [.lit (.bool true)], args := [d1, d2] }
  | _ => none }
def machRawRow : OpenClaim := { program := "ytehibklogdngbaa", sum := "3fa27f54b8ccbc97e5e1767407576bf9746e95994671a85973c551bf36979611", func := "jacquard/jacquardlaw07.MachRaw", spec := "machRaw", unfollowed := true, recurses := true, apart := false }
def MachRawSaid : Prop := machRawRow.holds Try.pinned (OpenSpec.ofChange machRawSpec)

/-- ITS FALSE NEIGHBOUR: 'it returns false'. Refute it at one input. -/
def machRawWrong : ChangeSpec := { name := "machRaw", fn := fun _ => fun
  | [d1, d2] => { results := [.lit (.bool false)], args := [d1, d2] }
  | _ => none }
def MachRawWrongFalsely : Prop := machRawRow.holds Try.pinned (OpenSpec.ofChange machRawWrong)

/-- 'jacquardlaw07.MachTouches': WHATEVER THE INPUT: true; the input reads as it did. -/
def machTouchesSpec : ChangeSpec := { name := "machTouches", fn := fun _ => fun
  | [d1, d2, d3] => { results := [.lit (.bool true)], args := [d1, d2, d3] }
  | _ => none }
def machTouchesRow : OpenClaim := { program := "ytehibklogdngbaa", sum := "3fa27f54b8ccbc97e5e1767407576bf9746e95994671a85973c551bf36979611", func := "jacquard/jacquardlaw07.MachTouches", spec := "machTouches", unfollowed := true, recurses := true, apart := false }
def MachTouchesSaid : Prop := machTouchesRow.holds Try.pinned (OpenSpec.ofChange machTouchesSpec)

/-- ITS FALSE NEIGHBOUR: 'it returns false'. Refute it at one input. -/
def machTouchesWrong : ChangeSpec := { name := "machTouches", fn := fun _ => fun
  | [d1, d2, d3] => { results := [.lit (.bool false)], args := [d1, d2, d3] }
  | _ => none }
def MachTouchesWrongFalsely : Prop := machTouchesRow.holds Try.pinned (OpenSpec.ofChange machTouchesWrong)

/-- 'jacquardlaw07.MachWords': WHATEVER THE INPUT: true; the input reads as it did. -/
def machWordsSpec : ChangeSpec := { name := "machWords", fn := fun _ => fun
  | [d1, d2, d3] => { results := [.lit (.bool true)], args := [d1, d2, d3] }
  | _ => none }
def machWordsRow : OpenClaim := { program := "ytehibklogdngbaa", sum := "3fa27f54b8ccbc97e5e1767407576bf9746e95994671a85973c551bf36979611", func := "jacquard/jacquardlaw07.MachWords", spec := "machWords", unfollowed := true, recurses := true, apart := false }
def MachWordsSaid : Prop := machWordsRow.holds Try.pinned (OpenSpec.ofChange machWordsSpec)

/-- ITS FALSE NEIGHBOUR: 'it returns false'. Refute it at one input. -/
def machWordsWrong : ChangeSpec := { name := "machWords", fn := fun _ => fun
  | [d1, d2, d3] => { results := [.lit (.bool false)], args := [d1, d2, d3] }
  | _ => none }
def MachWordsWrongFalsely : Prop := machWordsRow.holds Try.pinned (OpenSpec.ofChange machWordsWrong)

/-- 'jacquardlaw07.MachLimits': WHATEVER THE INPUT: true; the input reads as it did. -/
def machLimitsSpec : ChangeSpec := { name := "machLimits", fn := fun _ => fun
  | [d1, d2] => { results := [.lit (.bool true)], args := [d1, d2] }
  | _ => none }
def machLimitsRow : OpenClaim := { program := "ytehibklogdngbaa", sum := "3fa27f54b8ccbc97e5e1767407576bf9746e95994671a85973c551bf36979611", func := "jacquard/jacquardlaw07.MachLimits", spec := "machLimits", unfollowed := true, recurses := true, apart := false }
def MachLimitsSaid : Prop := machLimitsRow.holds Try.pinned (OpenSpec.ofChange machLimitsSpec)

/-- ITS FALSE NEIGHBOUR: 'it returns false'. Refute it at one input. -/
def machLimitsWrong : ChangeSpec := { name := "machLimits", fn := fun _ => fun
  | [d1, d2] => { results := [.lit (.bool false)], args := [d1, d2] }
  | _ => none }
def MachLimitsWrongFalsely : Prop := machLimitsRow.holds Try.pinned (OpenSpec.ofChange machLimitsWrong)

/-- 'jacquardlaw07.MachEnds': WHATEVER THE INPUT: true; the input reads as it did. -/
def machEndsSpec : ChangeSpec := { name := "machEnds", fn := fun _ => fun
  | [d1, d2, d3] => { results := [.lit (.bool true)], args := [d1, d2, d3] }
  | _ => none }
def machEndsRow : OpenClaim := { program := "ytehibklogdngbaa", sum := "3fa27f54b8ccbc97e5e1767407576bf9746e95994671a85973c551bf36979611", func := "jacquard/jacquardlaw07.MachEnds", spec := "machEnds", unfollowed := true, recurses := true, apart := false }
def MachEndsSaid : Prop := machEndsRow.holds Try.pinned (OpenSpec.ofChange machEndsSpec)

/-- ITS FALSE NEIGHBOUR: 'it returns false'. Refute it at one input. -/
def machEndsWrong : ChangeSpec := { name := "machEnds", fn := fun _ => fun
  | [d1, d2, d3] => { results := [.lit (.bool false)], args := [d1, d2, d3] }
  | _ => none }
def MachEndsWrongFalsely : Prop := machEndsRow.holds Try.pinned (OpenSpec.ofChange machEndsWrong)

/- THE SECOND FORM. 'bulk': how many values and letters a reading holds, each counted each time it is reached (what is shared counts as often as it is met; a slice's spare places count too). A statement '..UptoSaid' is the law's where the arguments, and the package variables that the reading takes, are together of bulk at most 1048576: NARROWER than '..Said'. Prove '..Said' where nothing that the law and all that it calls make is longer than what came in: it says more and counts as full. Else prove '..UptoSaid'. A law counts once. -/
mutual
def uptoBulk {H : Type} : DataW H → Nat
  | .lit (.string bytes) => bytes.length + 1
  | .lit _ => 1
  | .nil => 1
  | .ptr d => uptoBulk d + 1
  | .slice elems spare => uptoBulkAll elems + uptoBulkAll spare + 1
  | .agg parts => uptoBulkAll parts + 1
  | .iface _ d => uptoBulk d + 1
  | .map entries => uptoBulkEntries entries + 1
  | .held _ => 1
def uptoBulkAll {H : Type} : List (DataW H) → Nat
  | [] => 0
  | d :: r => uptoBulk d + uptoBulkAll r
def uptoBulkEntries {H : Type} : List (Lit × DataW H) → Nat
  | [] => 0
  | x :: r => uptoBulkEntry x + uptoBulkEntries r
def uptoBulkEntry {H : Type} : Lit × DataW H → Nat
  | (.string bytes, d) => bytes.length + uptoBulk d + 1
  | (_, d) => uptoBulk d + 1
 end
def uptoSmall : (H : Type) → List (DataW H) → Bool := fun _ ds => decide (uptoBulkAll ds ≤ 1048576)
def OpenSpec.upto (s : _root_.Go.ChangeSpec) : _root_.Go.OpenSpec := { _root_.Go.OpenSpec.ofChange s with cond := some uptoSmall }

/-- 'jacquardlaw07.MachRaw', WHERE WHAT IT READS IS OF BULK AT MOST 1048576: true; the input reads as it did. -/
def machRawUptoRow : OpenClaim := { program := "ytehibklogdngbaa", sum := "3fa27f54b8ccbc97e5e1767407576bf9746e95994671a85973c551bf36979611", func := "jacquard/jacquardlaw07.MachRaw", spec := "machRaw", unfollowed := true, recurses := true, apart := false, narrowed := true }
def MachRawUptoSaid : Prop := machRawUptoRow.holds Try.pinned (OpenSpec.upto machRawSpec)

/-- 'jacquardlaw07.MachTouches', WHERE WHAT IT READS IS OF BULK AT MOST 1048576: true; the input reads as it did. -/
def machTouchesUptoRow : OpenClaim := { program := "ytehibklogdngbaa", sum := "3fa27f54b8ccbc97e5e1767407576bf9746e95994671a85973c551bf36979611", func := "jacquard/jacquardlaw07.MachTouches", spec := "machTouches", unfollowed := true, recurses := true, apart := false, narrowed := true }
def MachTouchesUptoSaid : Prop := machTouchesUptoRow.holds Try.pinned (OpenSpec.upto machTouchesSpec)

/-- 'jacquardlaw07.MachWords', WHERE WHAT IT READS IS OF BULK AT MOST 1048576: true; the input reads as it did. -/
def machWordsUptoRow : OpenClaim := { program := "ytehibklogdngbaa", sum := "3fa27f54b8ccbc97e5e1767407576bf9746e95994671a85973c551bf36979611", func := "jacquard/jacquardlaw07.MachWords", spec := "machWords", unfollowed := true, recurses := true, apart := false, narrowed := true }
def MachWordsUptoSaid : Prop := machWordsUptoRow.holds Try.pinned (OpenSpec.upto machWordsSpec)

/-- 'jacquardlaw07.MachLimits', WHERE WHAT IT READS IS OF BULK AT MOST 1048576: true; the input reads as it did. -/
def machLimitsUptoRow : OpenClaim := { program := "ytehibklogdngbaa", sum := "3fa27f54b8ccbc97e5e1767407576bf9746e95994671a85973c551bf36979611", func := "jacquard/jacquardlaw07.MachLimits", spec := "machLimits", unfollowed := true, recurses := true, apart := false, narrowed := true }
def MachLimitsUptoSaid : Prop := machLimitsUptoRow.holds Try.pinned (OpenSpec.upto machLimitsSpec)

/-- 'jacquardlaw07.MachEnds', WHERE WHAT IT READS IS OF BULK AT MOST 1048576: true; the input reads as it did. -/
def machEndsUptoRow : OpenClaim := { program := "ytehibklogdngbaa", sum := "3fa27f54b8ccbc97e5e1767407576bf9746e95994671a85973c551bf36979611", func := "jacquard/jacquardlaw07.MachEnds", spec := "machEnds", unfollowed := true, recurses := true, apart := false, narrowed := true }
def MachEndsUptoSaid : Prop := machEndsUptoRow.holds Try.pinned (OpenSpec.upto machEndsSpec)

end Rows
end Go.Proofs.Ytehibklogdngbaa
