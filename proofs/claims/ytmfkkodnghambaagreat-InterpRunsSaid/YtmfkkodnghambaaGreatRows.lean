/-
  No cell of these rows narrows 'for every input' (looked for: loops, veiled, ifaces, maps, wideKeys, modest, calm, conditions, laid).
  DERIVED. THE GIVEN ROWS OF THIS SEAT. 6 by the template 'for every input the law returns true; each argument reads behind the call as it read before'; 0 by the template 'total and deterministic' (their statements: YtmfkkodnghambaaGreatTotals.lean).
  GIVEN WITH THE SEED: the statements are not yours to turn. If you find one false, say at which input.
  Laid BY PROGRAM, IN A SANDBOX (cutbox-rows.mjs): the forced cells as the released guide's own fill.sh prints them over the translation 32f60fc0257281a7… (all of the seat's roots in one cut). By AI agents, Wed Nov 11 2026. No macro, syntax, notation, axiom, sorry.
-/
import Derived.Test.YtmfkkodnghambaaGreatChecked
import GoSem.Claim
import GoSem.ClaimJoined
import GoSem.ClaimMapViews
import Derived.JoinedTies
import Derived.KernelRfl
namespace Go.Proofs.YtmfkkodnghambaaGreat
/- THE CELL 'sum', in the pinned program and in every row, IS THE sha256 OF THE DUMP (.gsa) THAT YtmfkkodnghambaaGreatProg.lean LOADS. Nothing in Lean hashes anything: it is a label: what it is worth is what the hold of that sum in a sandbox is worth. -/
noncomputable def Tryz.pinned : Pinned := { name := "ytmfkkodnghambaagreat", sum := "32f60fc0257281a748ee8a561853803e1ddf6676a88c525040de2d2db96cfcf9", checked := Tryz.checked }
namespace Rows
def none {H : Type} : Left H := { results := [], args := [] }

/-- 'jacquardlaw07.MachOwn': WHATEVER THE INPUT: true; the input reads as it did. -/
def machOwnSpec : ChangeSpec := { name := "machOwn", fn := fun _ => fun
  | [d1, d2, d3] => { results := [.lit (.bool true)], args := [d1, d2, d3] }
  | _ => none }
def machOwnRow : OpenClaim := { program := "ytmfkkodnghambaagreat", sum := "32f60fc0257281a748ee8a561853803e1ddf6676a88c525040de2d2db96cfcf9", func := "jacquard/jacquardlaw07.MachOwn", spec := "machOwn", unfollowed := true, recurses := true, apart := false }
def MachOwnSaid : Prop := machOwnRow.holds Tryz.pinned (OpenSpec.ofChange machOwnSpec)

/-- ITS FALSE NEIGHBOUR: 'it returns false'. Refute it at one input. -/
def machOwnWrong : ChangeSpec := { name := "machOwn", fn := fun _ => fun
  | [d1, d2, d3] => { results := [.lit (.bool false)], args := [d1, d2, d3] }
  | _ => none }
def MachOwnWrongFalsely : Prop := machOwnRow.holds Tryz.pinned (OpenSpec.ofChange machOwnWrong)

/-- 'jacquardlaw04.InterpRuns': WHATEVER THE INPUT: true; the input reads as it did. -/
def interpRunsSpec : ChangeSpec := { name := "interpRuns", fn := fun _ => fun
  | [d1, d2, d3] => { results := [.lit (.bool true)], args := [d1, d2, d3] }
  | _ => none }
def interpRunsRow : OpenClaim := { program := "ytmfkkodnghambaagreat", sum := "32f60fc0257281a748ee8a561853803e1ddf6676a88c525040de2d2db96cfcf9", func := "jacquard/jacquardlaw04.InterpRuns", spec := "interpRuns", unfollowed := true, recurses := true, apart := false }
def InterpRunsSaid : Prop := interpRunsRow.holds Tryz.pinned (OpenSpec.ofChange interpRunsSpec)

/-- ITS FALSE NEIGHBOUR: 'it returns false'. Refute it at one input. -/
def interpRunsWrong : ChangeSpec := { name := "interpRuns", fn := fun _ => fun
  | [d1, d2, d3] => { results := [.lit (.bool false)], args := [d1, d2, d3] }
  | _ => none }
def InterpRunsWrongFalsely : Prop := interpRunsRow.holds Tryz.pinned (OpenSpec.ofChange interpRunsWrong)

/-- 'jacquardlaw04.InterpRaw': WHATEVER THE INPUT: true; the input reads as it did. -/
def interpRawSpec : ChangeSpec := { name := "interpRaw", fn := fun _ => fun
  | [d1, d2] => { results := [.lit (.bool true)], args := [d1, d2] }
  | _ => none }
def interpRawRow : OpenClaim := { program := "ytmfkkodnghambaagreat", sum := "32f60fc0257281a748ee8a561853803e1ddf6676a88c525040de2d2db96cfcf9", func := "jacquard/jacquardlaw04.InterpRaw", spec := "interpRaw", unfollowed := true, recurses := true, apart := false }
def InterpRawSaid : Prop := interpRawRow.holds Tryz.pinned (OpenSpec.ofChange interpRawSpec)

/-- ITS FALSE NEIGHBOUR: 'it returns false'. Refute it at one input. -/
def interpRawWrong : ChangeSpec := { name := "interpRaw", fn := fun _ => fun
  | [d1, d2] => { results := [.lit (.bool false)], args := [d1, d2] }
  | _ => none }
def InterpRawWrongFalsely : Prop := interpRawRow.holds Tryz.pinned (OpenSpec.ofChange interpRawWrong)

/-- 'jacquardlaw04.InterpSteps': WHATEVER THE INPUT: true; the input reads as it did. -/
def interpStepsSpec : ChangeSpec := { name := "interpSteps", fn := fun _ => fun
  | [d1, d2, d3] => { results := [.lit (.bool true)], args := [d1, d2, d3] }
  | _ => none }
def interpStepsRow : OpenClaim := { program := "ytmfkkodnghambaagreat", sum := "32f60fc0257281a748ee8a561853803e1ddf6676a88c525040de2d2db96cfcf9", func := "jacquard/jacquardlaw04.InterpSteps", spec := "interpSteps", unfollowed := true, recurses := true, apart := false }
def InterpStepsSaid : Prop := interpStepsRow.holds Tryz.pinned (OpenSpec.ofChange interpStepsSpec)

/-- ITS FALSE NEIGHBOUR: 'it returns false'. Refute it at one input. -/
def interpStepsWrong : ChangeSpec := { name := "interpSteps", fn := fun _ => fun
  | [d1, d2, d3] => { results := [.lit (.bool false)], args := [d1, d2, d3] }
  | _ => none }
def InterpStepsWrongFalsely : Prop := interpStepsRow.holds Tryz.pinned (OpenSpec.ofChange interpStepsWrong)

/-- 'jacquardlaw04.InterpOwn': WHATEVER THE INPUT: true; the input reads as it did. -/
def interpOwnSpec : ChangeSpec := { name := "interpOwn", fn := fun _ => fun
  | [d1, d2, d3] => { results := [.lit (.bool true)], args := [d1, d2, d3] }
  | _ => none }
def interpOwnRow : OpenClaim := { program := "ytmfkkodnghambaagreat", sum := "32f60fc0257281a748ee8a561853803e1ddf6676a88c525040de2d2db96cfcf9", func := "jacquard/jacquardlaw04.InterpOwn", spec := "interpOwn", unfollowed := true, recurses := true, apart := false }
def InterpOwnSaid : Prop := interpOwnRow.holds Tryz.pinned (OpenSpec.ofChange interpOwnSpec)

/-- ITS FALSE NEIGHBOUR: 'it returns false'. Refute it at one input. -/
def interpOwnWrong : ChangeSpec := { name := "interpOwn", fn := fun _ => fun
  | [d1, d2, d3] => { results := [.lit (.bool false)], args := [d1, d2, d3] }
  | _ => none }
def InterpOwnWrongFalsely : Prop := interpOwnRow.holds Tryz.pinned (OpenSpec.ofChange interpOwnWrong)

/-- 'jacquardlaw07.MachInterp': WHATEVER THE INPUT: true; the input reads as it did. -/
def machInterpSpec : ChangeSpec := { name := "machInterp", fn := fun _ => fun
  | [d1, d2, d3] => { results := [.lit (.bool true)], args := [d1, d2, d3] }
  | _ => none }
def machInterpRow : OpenClaim := { program := "ytmfkkodnghambaagreat", sum := "32f60fc0257281a748ee8a561853803e1ddf6676a88c525040de2d2db96cfcf9", func := "jacquard/jacquardlaw07.MachInterp", spec := "machInterp", unfollowed := true, recurses := true, apart := false }
def MachInterpSaid : Prop := machInterpRow.holds Tryz.pinned (OpenSpec.ofChange machInterpSpec)

/-- ITS FALSE NEIGHBOUR: 'it returns false'. Refute it at one input. -/
def machInterpWrong : ChangeSpec := { name := "machInterp", fn := fun _ => fun
  | [d1, d2, d3] => { results := [.lit (.bool false)], args := [d1, d2, d3] }
  | _ => none }
def MachInterpWrongFalsely : Prop := machInterpRow.holds Tryz.pinned (OpenSpec.ofChange machInterpWrong)

/- THE SECOND FORM. 'bulk': how many values and letters a reading holds, each counted each time it is reached (what is shared counts as often as it is met; a slice's spare places count too). A statement '..UptoSaid' is the law's where the arguments, and the package variables that the reading takes, are together of bulk at most 1048576: NARROWER than '..Said'. Prove '..Said' where nothing that the law and all that it calls make is longer than what came in: it says more and counts as full. Else prove '..UptoSaid'. A law counts once. -/
mutual
def uptoBulk {H : Type} : DataW H → Nat
  | .lit (.string bytes) => bytes.length + 1
  | .lit _ => 1
  | .nil => 1
  | .ptr d => uptoBulk d + 1
  | .slice elems spare => uptoBulkAll elems + uptoBulkAll spare + 1
  | .agg parts => uptoBulkAll parts + 1
  | .iface _ d => uptoBulk d + 1
  | .map entries => uptoBulkEntries entries + 1
  | .held _ => 1
def uptoBulkAll {H : Type} : List (DataW H) → Nat
  | [] => 0
  | d :: r => uptoBulk d + uptoBulkAll r
def uptoBulkEntries {H : Type} : List (Lit × DataW H) → Nat
  | [] => 0
  | x :: r => uptoBulkEntry x + uptoBulkEntries r
def uptoBulkEntry {H : Type} : Lit × DataW H → Nat
  | (.string bytes, d) => bytes.length + uptoBulk d + 1
  | (_, d) => uptoBulk d + 1
 end
def uptoSmall : (H : Type) → List (DataW H) → Bool := fun _ ds => decide (uptoBulkAll ds ≤ 1048576)
def OpenSpec.upto (s : _root_.Go.ChangeSpec) : _root_.Go.OpenSpec := { _root_.Go.OpenSpec.ofChange s with cond := some uptoSmall }

/-- 'jacquardlaw07.MachOwn', WHERE WHAT IT READS IS OF BULK AT MOST 1048576: true; the input reads as it did. -/
def machOwnUptoRow : OpenClaim := { program := "ytmfkkodnghambaagreat", sum := "32f60fc0257281a748ee8a561853803e1ddf6676a88c525040de2d2db96cfcf9", func := "jacquard/jacquardlaw07.MachOwn", spec := "machOwn", unfollowed := true, recurses := true, apart := false, narrowed := true }
def MachOwnUptoSaid : Prop := machOwnUptoRow.holds Tryz.pinned (OpenSpec.upto machOwnSpec)

/-- 'jacquardlaw04.InterpRuns', WHERE WHAT IT READS IS OF BULK AT MOST 1048576: true; the input reads as it did. -/
def interpRunsUptoRow : OpenClaim := { program := "ytmfkkodnghambaagreat", sum := "32f60fc0257281a748ee8a561853803e1ddf6676a88c525040de2d2db96cfcf9", func := "jacquard/jacquardlaw04.InterpRuns", spec := "interpRuns", unfollowed := true, recurses := true, apart := false, narrowed := true }
def InterpRunsUptoSaid : Prop := interpRunsUptoRow.holds Tryz.pinned (OpenSpec.upto interpRunsSpec)

/-- 'jacquardlaw04.InterpRaw', WHERE WHAT IT READS IS OF BULK AT MOST 1048576: true; the input reads as it did. -/
def interpRawUptoRow : OpenClaim := { program := "ytmfkkodnghambaagreat", sum := "32f60fc0257281a748ee8a561853803e1ddf6676a88c525040de2d2db96cfcf9", func := "jacquard/jacquardlaw04.InterpRaw", spec := "interpRaw", unfollowed := true, recurses := true, apart := false, narrowed := true }
def InterpRawUptoSaid : Prop := interpRawUptoRow.holds Tryz.pinned (OpenSpec.upto interpRawSpec)

/-- 'jacquardlaw04.InterpSteps', WHERE WHAT IT READS IS OF BULK AT MOST 1048576: true; the input reads as it did. -/
def interpStepsUptoRow : OpenClaim := { program := "ytmfkkodnghambaagreat", sum := "32f60fc0257281a748ee8a561853803e1ddf6676a88c525040de2d2db96cfcf9", func := "jacquard/jacquardlaw04.InterpSteps", spec := "interpSteps", unfollowed := true, recurses := true, apart := false, narrowed := true }
def InterpStepsUptoSaid : Prop := interpStepsUptoRow.holds Tryz.pinned (OpenSpec.upto interpStepsSpec)

/-- 'jacquardlaw04.InterpOwn', WHERE WHAT IT READS IS OF BULK AT MOST 1048576: true; the input reads as it did. -/
def interpOwnUptoRow : OpenClaim := { program := "ytmfkkodnghambaagreat", sum := "32f60fc0257281a748ee8a561853803e1ddf6676a88c525040de2d2db96cfcf9", func := "jacquard/jacquardlaw04.InterpOwn", spec := "interpOwn", unfollowed := true, recurses := true, apart := false, narrowed := true }
def InterpOwnUptoSaid : Prop := interpOwnUptoRow.holds Tryz.pinned (OpenSpec.upto interpOwnSpec)

/-- 'jacquardlaw07.MachInterp', WHERE WHAT IT READS IS OF BULK AT MOST 1048576: true; the input reads as it did. -/
def machInterpUptoRow : OpenClaim := { program := "ytmfkkodnghambaagreat", sum := "32f60fc0257281a748ee8a561853803e1ddf6676a88c525040de2d2db96cfcf9", func := "jacquard/jacquardlaw07.MachInterp", spec := "machInterp", unfollowed := true, recurses := true, apart := false, narrowed := true }
def MachInterpUptoSaid : Prop := machInterpUptoRow.holds Tryz.pinned (OpenSpec.upto machInterpSpec)

end Rows
end Go.Proofs.YtmfkkodnghambaaGreat
