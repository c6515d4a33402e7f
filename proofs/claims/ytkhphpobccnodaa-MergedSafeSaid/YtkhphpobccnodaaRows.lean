/-
  No cell of these rows narrows 'for every input' (looked for: loops, veiled, ifaces, maps, wideKeys, modest, calm, conditions, laid).
  DERIVED. THE GIVEN ROWS OF THIS SEAT. 4 by the template 'for every input the law returns true; each argument reads behind the call as it read before'; 0 by the template 'total and deterministic' (their statements: YtkhphpobccnodaaTotals.lean).
  GIVEN WITH THE SEED: the statements are not yours to turn. If you find one false, say at which input.
  Laid BY PROGRAM, IN A SANDBOX (cutbox-rows.mjs): the forced cells as the released guide's own fill.sh prints them over the translation 3ad78475e54f84ee… (all of the seat's roots in one cut). By AI agents, Wed Nov 11 2026. No macro, syntax, notation, axiom, sorry.
-/
import Derived.Test.YtkhphpobccnodaaChecked
import GoSem.Claim
import GoSem.ClaimJoined
import GoSem.ClaimMapViews
import Derived.JoinedTies
import Derived.KernelRfl
namespace Go.Proofs.Ytkhphpobccnodaa
/- THE CELL 'sum', in the pinned program and in every row, IS THE sha256 OF THE DUMP (.gsa) THAT YtkhphpobccnodaaProg.lean LOADS. Nothing in Lean hashes anything: it is a label: what it is worth is what the hold of that sum in a sandbox is worth. -/
noncomputable def Try.pinned : Pinned := { name := "ytkhphpobccnodaa", sum := "3ad78475e54f84eeed4337d3795a2d0a209c637ad8b121124b13682b0d092a97", checked := Try.checked }
namespace Rows
def none {H : Type} : Left H := { results := [], args := [] }

/-- 'jacquardlaw14.ColoursTell': WHATEVER THE INPUT: true; the input reads as it did. -/
def coloursTellSpec : ChangeSpec := { name := "coloursTell", fn := fun _ => fun
  | [d] => { results := [.lit (.bool true)], args := [d] }
  | _ => none }
def coloursTellRow : OpenClaim := { program := "ytkhphpobccnodaa", sum := "3ad78475e54f84eeed4337d3795a2d0a209c637ad8b121124b13682b0d092a97", func := "jacquard/jacquardlaw14.ColoursTell", spec := "coloursTell", unfollowed := true, recurses := true, apart := false }
def ColoursTellSaid : Prop := coloursTellRow.holds Try.pinned (OpenSpec.ofChange coloursTellSpec)

/-- ITS FALSE NEIGHBOUR: 'it returns false'. Refute it at one input. -/
def coloursTellWrong : ChangeSpec := { name := "coloursTell", fn := fun _ => fun
  | [d] => { results := [.lit (.bool false)], args := [d] }
  | _ => none }
def ColoursTellWrongFalsely : Prop := coloursTellRow.holds Try.pinned (OpenSpec.ofChange coloursTellWrong)

/-- 'jacquardlaw14.ColoursDiffer': WHATEVER THE INPUT: true; the input reads as it did. -/
def coloursDifferSpec : ChangeSpec := { name := "coloursDiffer", fn := fun _ => fun
  | [d1, d2, d3] => { results := [.lit (.bool true)], args := [d1, d2, d3] }
  | _ => none }
def coloursDifferRow : OpenClaim := { program := "ytkhphpobccnodaa", sum := "3ad78475e54f84eeed4337d3795a2d0a209c637ad8b121124b13682b0d092a97", func := "jacquard/jacquardlaw14.ColoursDiffer", spec := "coloursDiffer", unfollowed := true, recurses := true, apart := false }
def ColoursDifferSaid : Prop := coloursDifferRow.holds Try.pinned (OpenSpec.ofChange coloursDifferSpec)

/-- ITS FALSE NEIGHBOUR: 'it returns false'. Refute it at one input. -/
def coloursDifferWrong : ChangeSpec := { name := "coloursDiffer", fn := fun _ => fun
  | [d1, d2, d3] => { results := [.lit (.bool false)], args := [d1, d2, d3] }
  | _ => none }
def ColoursDifferWrongFalsely : Prop := coloursDifferRow.holds Try.pinned (OpenSpec.ofChange coloursDifferWrong)

/-- 'jacquardlaw14.MergedTell': WHATEVER THE INPUT: true; the input reads as it did. -/
def mergedTellSpec : ChangeSpec := { name := "mergedTell", fn := fun _ => fun
  | [d] => { results := [.lit (.bool true)], args := [d] }
  | _ => none }
def mergedTellRow : OpenClaim := { program := "ytkhphpobccnodaa", sum := "3ad78475e54f84eeed4337d3795a2d0a209c637ad8b121124b13682b0d092a97", func := "jacquard/jacquardlaw14.MergedTell", spec := "mergedTell", unfollowed := true, recurses := true, apart := false }
def MergedTellSaid : Prop := mergedTellRow.holds Try.pinned (OpenSpec.ofChange mergedTellSpec)

/-- ITS FALSE NEIGHBOUR: 'it returns false'. Refute it at one input. -/
def mergedTellWrong : ChangeSpec := { name := "mergedTell", fn := fun _ => fun
  | [d] => { results := [.lit (.bool false)], args := [d] }
  | _ => none }
def MergedTellWrongFalsely : Prop := mergedTellRow.holds Try.pinned (OpenSpec.ofChange mergedTellWrong)

/-- 'jacquardlaw14.MergedSafe': WHATEVER THE INPUT: true; the input reads as it did. -/
def mergedSafeSpec : ChangeSpec := { name := "mergedSafe", fn := fun _ => fun
  | [d1, d2, d3] => { results := [.lit (.bool true)], args := [d1, d2, d3] }
  | _ => none }
def mergedSafeRow : OpenClaim := { program := "ytkhphpobccnodaa", sum := "3ad78475e54f84eeed4337d3795a2d0a209c637ad8b121124b13682b0d092a97", func := "jacquard/jacquardlaw14.MergedSafe", spec := "mergedSafe", unfollowed := true, recurses := true, apart := false }
def MergedSafeSaid : Prop := mergedSafeRow.holds Try.pinned (OpenSpec.ofChange mergedSafeSpec)

/-- ITS FALSE NEIGHBOUR: 'it returns false'. Refute it at one input. -/
def mergedSafeWrong : ChangeSpec := { name := "mergedSafe", fn := fun _ => fun
  | [d1, d2, d3] => { results := [.lit (.bool false)], args := [d1, d2, d3] }
  | _ => none }
def MergedSafeWrongFalsely : Prop := mergedSafeRow.holds Try.pinned (OpenSpec.ofChange mergedSafeWrong)

/- THE SECOND FORM. 'bulk': how many values and letters a reading holds, each counted each time it is reached (what is shared counts as often as it is met; a slice's spare places count too). A statement '..UptoSaid' is the law's where the arguments, and the package variables that the reading takes, are together of bulk at most 1048576: NARROWER than '..Said'. Prove '..Said' where nothing that the law and all that it calls make is longer than what came in: it says more and counts as full. Else prove '..UptoSaid'. A law counts once. -/
mutual
def uptoBulk {H : Type} : DataW H → Nat
  | .lit (.string bytes) => bytes.length + 1
  | .lit _ => 1
  | .nil => 1
  | .ptr d => uptoBulk d + 1
  | .slice elems spare => uptoBulkAll elems + uptoBulkAll spare + 1
  | .agg parts => uptoBulkAll parts + 1
  | .iface _ d => uptoBulk d + 1
  | .map entries => uptoBulkEntries entries + 1
  | .held _ => 1
def uptoBulkAll {H : Type} : List (DataW H) → Nat
  | [] => 0
  | d :: r => uptoBulk d + uptoBulkAll r
def uptoBulkEntries {H : Type} : List (Lit × DataW H) → Nat
  | [] => 0
  | x :: r => uptoBulkEntry x + uptoBulkEntries r
def uptoBulkEntry {H : Type} : Lit × DataW H → Nat
  | (.string bytes, d) => bytes.length + uptoBulk d + 1
  | (_, d) => uptoBulk d + 1
 end
def uptoSmall : (H : Type) → List (DataW H) → Bool := fun _ ds => decide (uptoBulkAll ds ≤ 1048576)
def OpenSpec.upto (s : _root_.Go.ChangeSpec) : _root_.Go.OpenSpec := { _root_.Go.OpenSpec.ofChange s with cond := some uptoSmall }

/-- 'jacquardlaw14.ColoursTell', WHERE WHAT IT READS IS OF BULK AT MOST 1048576: true; the input reads as it did. -/
def coloursTellUptoRow : OpenClaim := { program := "ytkhphpobccnodaa", sum := "3ad78475e54f84eeed4337d3795a2d0a209c637ad8b121124b13682b0d092a97", func := "jacquard/jacquardlaw14.ColoursTell", spec := "coloursTell", unfollowed := true, recurses := true, apart := false, narrowed := true }
def ColoursTellUptoSaid : Prop := coloursTellUptoRow.holds Try.pinned (OpenSpec.upto coloursTellSpec)

/-- 'jacquardlaw14.ColoursDiffer', WHERE WHAT IT READS IS OF BULK AT MOST 1048576: true; the input reads as it did. -/
def coloursDifferUptoRow : OpenClaim := { program := "ytkhphpobccnodaa", sum := "3ad78475e54f84eeed4337d3795a2d0a209c637ad8b121124b13682b0d092a97", func := "jacquard/jacquardlaw14.ColoursDiffer", spec := "coloursDiffer", unfollowed := true, recurses := true, apart := false, narrowed := true }
def ColoursDifferUptoSaid : Prop := coloursDifferUptoRow.holds Try.pinned (OpenSpec.upto coloursDifferSpec)

/-- 'jacquardlaw14.MergedTell', WHERE WHAT IT READS IS OF BULK AT MOST 1048576: true; the input reads as it did. -/
def mergedTellUptoRow : OpenClaim := { program := "ytkhphpobccnodaa", sum := "3ad78475e54f84eeed4337d3795a2d0a209c637ad8b121124b13682b0d092a97", func := "jacquard/jacquardlaw14.MergedTell", spec := "mergedTell", unfollowed := true, recurses := true, apart := false, narrowed := true }
def MergedTellUptoSaid : Prop := mergedTellUptoRow.holds Try.pinned (OpenSpec.upto mergedTellSpec)

/-- 'jacquardlaw14.MergedSafe', WHERE WHAT IT READS IS OF BULK AT MOST 1048576: true; the input reads as it did. -/
def mergedSafeUptoRow : OpenClaim := { program := "ytkhphpobccnodaa", sum := "3ad78475e54f84eeed4337d3795a2d0a209c637ad8b121124b13682b0d092a97", func := "jacquard/jacquardlaw14.MergedSafe", spec := "mergedSafe", unfollowed := true, recurses := true, apart := false, narrowed := true }
def MergedSafeUptoSaid : Prop := mergedSafeUptoRow.holds Try.pinned (OpenSpec.upto mergedSafeSpec)

end Rows
end Go.Proofs.Ytkhphpobccnodaa
