/-
  No cell of these rows narrows 'for every input' (looked for: loops, veiled, ifaces, maps, wideKeys, modest, calm, conditions, laid).
  DERIVED. THE GIVEN ROWS OF THIS SEAT. 9 by the template 'for every input the law returns true; each argument reads behind the call as it read before'; 0 by the template 'total and deterministic' (their statements: YtcceglmmpbdhiaaTotals.lean).
  GIVEN WITH THE SEED: the statements are not yours to turn. If you find one false, say at which input.
  Laid BY PROGRAM, IN A SANDBOX (cutbox-rows.mjs): the forced cells as the released guide's own fill.sh prints them over the translation 625097704c760d48… (all of the seat's roots in one cut). By AI agents, Wed Nov 11 2026. No macro, syntax, notation, axiom, sorry.
-/
import Derived.Test.YtcceglmmpbdhiaaChecked
import GoSem.Claim
import GoSem.ClaimJoined
import GoSem.ClaimMapViews
import Derived.JoinedTies
import Derived.KernelRfl
namespace Go.Proofs.Ytcceglmmpbdhiaa
/- THE CELL 'sum', in the pinned program and in every row, IS THE sha256 OF THE DUMP (.gsa) THAT YtcceglmmpbdhiaaProg.lean LOADS. Nothing in Lean hashes anything: it is a label: what it is worth is what the hold of that sum in a sandbox is worth. -/
noncomputable def Try.pinned : Pinned := { name := "ytcceglmmpbdhiaa", sum := "625097704c760d482252fc45e34bf6a89a7a9a3c3be27ec8c92a6804067f51a0", checked := Try.checked }
namespace Rows
def none {H : Type} : Left H := { results := [], args := [] }

/-- 'jacquardlaw11.MovesOrders': WHATEVER THE INPUT: true; the input reads as it did. -/
def movesOrdersSpec : ChangeSpec := { name := "movesOrders", fn := fun _ => fun
  | [d1, d2, d3] => { results := [.lit (.bool true)], args := [d1, d2, d3] }
  | _ => none }
def movesOrdersRow : OpenClaim := { program := "ytcceglmmpbdhiaa", sum := "625097704c760d482252fc45e34bf6a89a7a9a3c3be27ec8c92a6804067f51a0", func := "jacquard/jacquardlaw11.MovesOrders", spec := "movesOrders", unfollowed := true, recurses := true, apart := false }
def MovesOrdersSaid : Prop := movesOrdersRow.holds Try.pinned (OpenSpec.ofChange movesOrdersSpec)

/-- ITS FALSE NEIGHBOUR: 'it returns false'. Refute it at one input. -/
def movesOrdersWrong : ChangeSpec := { name := "movesOrders", fn := fun _ => fun
  | [d1, d2, d3] => { results := [.lit (.bool false)], args := [d1, d2, d3] }
  | _ => none }
def MovesOrdersWrongFalsely : Prop := movesOrdersRow.holds Try.pinned (OpenSpec.ofChange movesOrdersWrong)

/-- 'jacquardlaw11.MovesFew': WHATEVER THE INPUT: true; the input reads as it did. -/
def movesFewSpec : ChangeSpec := { name := "movesFew", fn := fun _ => fun
  | [d] => { results := [.lit (.bool true)], args := [d] }
  | _ => none }
def movesFewRow : OpenClaim := { program := "ytcceglmmpbdhiaa", sum := "625097704c760d482252fc45e34bf6a89a7a9a3c3be27ec8c92a6804067f51a0", func := "jacquard/jacquardlaw11.MovesFew", spec := "movesFew", unfollowed := true, recurses := true, apart := false }
def MovesFewSaid : Prop := movesFewRow.holds Try.pinned (OpenSpec.ofChange movesFewSpec)

/-- ITS FALSE NEIGHBOUR: 'it returns false'. Refute it at one input. -/
def movesFewWrong : ChangeSpec := { name := "movesFew", fn := fun _ => fun
  | [d] => { results := [.lit (.bool false)], args := [d] }
  | _ => none }
def MovesFewWrongFalsely : Prop := movesFewRow.holds Try.pinned (OpenSpec.ofChange movesFewWrong)

/-- 'jacquardlaw11.MovesTurned': WHATEVER THE INPUT: true; the input reads as it did. -/
def movesTurnedSpec : ChangeSpec := { name := "movesTurned", fn := fun _ => fun
  | [d1, d2, d3] => { results := [.lit (.bool true)], args := [d1, d2, d3] }
  | _ => none }
def movesTurnedRow : OpenClaim := { program := "ytcceglmmpbdhiaa", sum := "625097704c760d482252fc45e34bf6a89a7a9a3c3be27ec8c92a6804067f51a0", func := "jacquard/jacquardlaw11.MovesTurned", spec := "movesTurned", unfollowed := true, recurses := true, apart := false }
def MovesTurnedSaid : Prop := movesTurnedRow.holds Try.pinned (OpenSpec.ofChange movesTurnedSpec)

/-- ITS FALSE NEIGHBOUR: 'it returns false'. Refute it at one input. -/
def movesTurnedWrong : ChangeSpec := { name := "movesTurned", fn := fun _ => fun
  | [d1, d2, d3] => { results := [.lit (.bool false)], args := [d1, d2, d3] }
  | _ => none }
def MovesTurnedWrongFalsely : Prop := movesTurnedRow.holds Try.pinned (OpenSpec.ofChange movesTurnedWrong)

/-- 'jacquardlaw11.MovesLacks': WHATEVER THE INPUT: true; the input reads as it did. -/
def movesLacksSpec : ChangeSpec := { name := "movesLacks", fn := fun _ => fun
  | [d] => { results := [.lit (.bool true)], args := [d] }
  | _ => none }
def movesLacksRow : OpenClaim := { program := "ytcceglmmpbdhiaa", sum := "625097704c760d482252fc45e34bf6a89a7a9a3c3be27ec8c92a6804067f51a0", func := "jacquard/jacquardlaw11.MovesLacks", spec := "movesLacks", unfollowed := true, recurses := true, apart := false }
def MovesLacksSaid : Prop := movesLacksRow.holds Try.pinned (OpenSpec.ofChange movesLacksSpec)

/-- ITS FALSE NEIGHBOUR: 'it returns false'. Refute it at one input. -/
def movesLacksWrong : ChangeSpec := { name := "movesLacks", fn := fun _ => fun
  | [d] => { results := [.lit (.bool false)], args := [d] }
  | _ => none }
def MovesLacksWrongFalsely : Prop := movesLacksRow.holds Try.pinned (OpenSpec.ofChange movesLacksWrong)

/-- 'jacquardlaw11.MovesAtOnce': WHATEVER THE INPUT: true; the input reads as it did. -/
def movesAtOnceSpec : ChangeSpec := { name := "movesAtOnce", fn := fun _ => fun
  | [d1, d2] => { results := [.lit (.bool true)], args := [d1, d2] }
  | _ => none }
def movesAtOnceRow : OpenClaim := { program := "ytcceglmmpbdhiaa", sum := "625097704c760d482252fc45e34bf6a89a7a9a3c3be27ec8c92a6804067f51a0", func := "jacquard/jacquardlaw11.MovesAtOnce", spec := "movesAtOnce", unfollowed := true, recurses := true, apart := false }
def MovesAtOnceSaid : Prop := movesAtOnceRow.holds Try.pinned (OpenSpec.ofChange movesAtOnceSpec)

/-- ITS FALSE NEIGHBOUR: 'it returns false'. Refute it at one input. -/
def movesAtOnceWrong : ChangeSpec := { name := "movesAtOnce", fn := fun _ => fun
  | [d1, d2] => { results := [.lit (.bool false)], args := [d1, d2] }
  | _ => none }
def MovesAtOnceWrongFalsely : Prop := movesAtOnceRow.holds Try.pinned (OpenSpec.ofChange movesAtOnceWrong)

/-- 'jacquardlaw11.MovesDo': WHATEVER THE INPUT: true; the input reads as it did. -/
def movesDoSpec : ChangeSpec := { name := "movesDo", fn := fun _ => fun
  | [d1, d2, d3] => { results := [.lit (.bool true)], args := [d1, d2, d3] }
  | _ => none }
def movesDoRow : OpenClaim := { program := "ytcceglmmpbdhiaa", sum := "625097704c760d482252fc45e34bf6a89a7a9a3c3be27ec8c92a6804067f51a0", func := "jacquard/jacquardlaw11.MovesDo", spec := "movesDo", unfollowed := true, recurses := true, apart := false }
def MovesDoSaid : Prop := movesDoRow.holds Try.pinned (OpenSpec.ofChange movesDoSpec)

/-- ITS FALSE NEIGHBOUR: 'it returns false'. Refute it at one input. -/
def movesDoWrong : ChangeSpec := { name := "movesDo", fn := fun _ => fun
  | [d1, d2, d3] => { results := [.lit (.bool false)], args := [d1, d2, d3] }
  | _ => none }
def MovesDoWrongFalsely : Prop := movesDoRow.holds Try.pinned (OpenSpec.ofChange movesDoWrong)

/-- 'jacquardlaw11.MovesAlike': WHATEVER THE INPUT: true; the input reads as it did. -/
def movesAlikeSpec : ChangeSpec := { name := "movesAlike", fn := fun _ => fun
  | [d1, d2, d3] => { results := [.lit (.bool true)], args := [d1, d2, d3] }
  | _ => none }
def movesAlikeRow : OpenClaim := { program := "ytcceglmmpbdhiaa", sum := "625097704c760d482252fc45e34bf6a89a7a9a3c3be27ec8c92a6804067f51a0", func := "jacquard/jacquardlaw11.MovesAlike", spec := "movesAlike", unfollowed := true, recurses := true, apart := false }
def MovesAlikeSaid : Prop := movesAlikeRow.holds Try.pinned (OpenSpec.ofChange movesAlikeSpec)

/-- ITS FALSE NEIGHBOUR: 'it returns false'. Refute it at one input. -/
def movesAlikeWrong : ChangeSpec := { name := "movesAlike", fn := fun _ => fun
  | [d1, d2, d3] => { results := [.lit (.bool false)], args := [d1, d2, d3] }
  | _ => none }
def MovesAlikeWrongFalsely : Prop := movesAlikeRow.holds Try.pinned (OpenSpec.ofChange movesAlikeWrong)

/-- 'jacquardlaw11.MovesOwn': WHATEVER THE INPUT: true; the input reads as it did. -/
def movesOwnSpec : ChangeSpec := { name := "movesOwn", fn := fun _ => fun
  | [d1, d2] => { results := [.lit (.bool true)], args := [d1, d2] }
  | _ => none }
def movesOwnRow : OpenClaim := { program := "ytcceglmmpbdhiaa", sum := "625097704c760d482252fc45e34bf6a89a7a9a3c3be27ec8c92a6804067f51a0", func := "jacquard/jacquardlaw11.MovesOwn", spec := "movesOwn", unfollowed := true, recurses := true, apart := false }
def MovesOwnSaid : Prop := movesOwnRow.holds Try.pinned (OpenSpec.ofChange movesOwnSpec)

/-- ITS FALSE NEIGHBOUR: 'it returns false'. Refute it at one input. -/
def movesOwnWrong : ChangeSpec := { name := "movesOwn", fn := fun _ => fun
  | [d1, d2] => { results := [.lit (.bool false)], args := [d1, d2] }
  | _ => none }
def MovesOwnWrongFalsely : Prop := movesOwnRow.holds Try.pinned (OpenSpec.ofChange movesOwnWrong)

/-- 'jacquardlaw11.MovesRound': WHATEVER THE INPUT: true; the input reads as it did. -/
def movesRoundSpec : ChangeSpec := { name := "movesRound", fn := fun _ => fun
  | [d1, d2] => { results := [.lit (.bool true)], args := [d1, d2] }
  | _ => none }
def movesRoundRow : OpenClaim := { program := "ytcceglmmpbdhiaa", sum := "625097704c760d482252fc45e34bf6a89a7a9a3c3be27ec8c92a6804067f51a0", func := "jacquard/jacquardlaw11.MovesRound", spec := "movesRound", unfollowed := true, recurses := true, apart := false }
def MovesRoundSaid : Prop := movesRoundRow.holds Try.pinned (OpenSpec.ofChange movesRoundSpec)

/-- ITS FALSE NEIGHBOUR: 'it returns false'. Refute it at one input. -/
def movesRoundWrong : ChangeSpec := { name := "movesRound", fn := fun _ => fun
  | [d1, d2] => { results := [.lit (.bool false)], args := [d1, d2] }
  | _ => none }
def MovesRoundWrongFalsely : Prop := movesRoundRow.holds Try.pinned (OpenSpec.ofChange movesRoundWrong)

/- THE SECOND FORM. 'bulk': how many values and letters a reading holds, each counted each time it is reached (what is shared counts as often as it is met; a slice's spare places count too). A statement '..UptoSaid' is the law's where the arguments, and the package variables that the reading takes, are together of bulk at most 1048576: NARROWER than '..Said'. Prove '..Said' where nothing that the law and all that it calls make is longer than what came in: it says more and counts as full. Else prove '..UptoSaid'. A law counts once. -/
mutual
def uptoBulk {H : Type} : DataW H → Nat
  | .lit (.string bytes) => bytes.length + 1
  | .lit _ => 1
  | .nil => 1
  | .ptr d => uptoBulk d + 1
  | .slice elems spare => uptoBulkAll elems + uptoBulkAll spare + 1
  | .agg parts => uptoBulkAll parts + 1
  | .iface _ d => uptoBulk d + 1
  | .map entries => uptoBulkEntries entries + 1
  | .held _ => 1
def uptoBulkAll {H : Type} : List (DataW H) → Nat
  | [] => 0
  | d :: r => uptoBulk d + uptoBulkAll r
def uptoBulkEntries {H : Type} : List (Lit × DataW H) → Nat
  | [] => 0
  | x :: r => uptoBulkEntry x + uptoBulkEntries r
def uptoBulkEntry {H : Type} : Lit × DataW H → Nat
  | (.string bytes, d) => bytes.length + uptoBulk d + 1
  | (_, d) => uptoBulk d + 1
 end
def uptoSmall : (H : Type) → List (DataW H) → Bool := fun _ ds => decide (uptoBulkAll ds ≤ 1048576)
def OpenSpec.upto (s : _root_.Go.ChangeSpec) : _root_.Go.OpenSpec := { _root_.Go.OpenSpec.ofChange s with cond := some uptoSmall }

/-- 'jacquardlaw11.MovesOrders', WHERE WHAT IT READS IS OF BULK AT MOST 1048576: true; the input reads as it did. -/
def movesOrdersUptoRow : OpenClaim := { program := "ytcceglmmpbdhiaa", sum := "625097704c760d482252fc45e34bf6a89a7a9a3c3be27ec8c92a6804067f51a0", func := "jacquard/jacquardlaw11.MovesOrders", spec := "movesOrders", unfollowed := true, recurses := true, apart := false, narrowed := true }
def MovesOrdersUptoSaid : Prop := movesOrdersUptoRow.holds Try.pinned (OpenSpec.upto movesOrdersSpec)

/-- 'jacquardlaw11.MovesFew', WHERE WHAT IT READS IS OF BULK AT MOST 1048576: true; the input reads as it did. -/
def movesFewUptoRow : OpenClaim := { program := "ytcceglmmpbdhiaa", sum := "625097704c760d482252fc45e34bf6a89a7a9a3c3be27ec8c92a6804067f51a0", func := "jacquard/jacquardlaw11.MovesFew", spec := "movesFew", unfollowed := true, recurses := true, apart := false, narrowed := true }
def MovesFewUptoSaid : Prop := movesFewUptoRow.holds Try.pinned (OpenSpec.upto movesFewSpec)

/-- 'jacquardlaw11.MovesTurned', WHERE WHAT IT READS IS OF BULK AT MOST 1048576: true; the input reads as it did. -/
def movesTurnedUptoRow : OpenClaim := { program := "ytcceglmmpbdhiaa", sum := "625097704c760d482252fc45e34bf6a89a7a9a3c3be27ec8c92a6804067f51a0", func := "jacquard/jacquardlaw11.MovesTurned", spec := "movesTurned", unfollowed := true, recurses := true, apart := false, narrowed := true }
def MovesTurnedUptoSaid : Prop := movesTurnedUptoRow.holds Try.pinned (OpenSpec.upto movesTurnedSpec)

/-- 'jacquardlaw11.MovesLacks', WHERE WHAT IT READS IS OF BULK AT MOST 1048576: true; the input reads as it did. -/
def movesLacksUptoRow : OpenClaim := { program := "ytcceglmmpbdhiaa", sum := "625097704c760d482252fc45e34bf6a89a7a9a3c3be27ec8c92a6804067f51a0", func := "jacquard/jacquardlaw11.MovesLacks", spec := "movesLacks", unfollowed := true, recurses := true, apart := false, narrowed := true }
def MovesLacksUptoSaid : Prop := movesLacksUptoRow.holds Try.pinned (OpenSpec.upto movesLacksSpec)

/-- 'jacquardlaw11.MovesAtOnce', WHERE WHAT IT READS IS OF BULK AT MOST 1048576: true; the input reads as it did. -/
def movesAtOnceUptoRow : OpenClaim := { program := "ytcceglmmpbdhiaa", sum := "625097704c760d482252fc45e34bf6a89a7a9a3c3be27ec8c92a6804067f51a0", func := "jacquard/jacquardlaw11.MovesAtOnce", spec := "movesAtOnce", unfollowed := true, recurses := true, apart := false, narrowed := true }
def MovesAtOnceUptoSaid : Prop := movesAtOnceUptoRow.holds Try.pinned (OpenSpec.upto movesAtOnceSpec)

/-- 'jacquardlaw11.MovesDo', WHERE WHAT IT READS IS OF BULK AT MOST 1048576: true; the input reads as it did. -/
def movesDoUptoRow : OpenClaim := { program := "ytcceglmmpbdhiaa", sum := "625097704c760d482252fc45e34bf6a89a7a9a3c3be27ec8c92a6804067f51a0", func := "jacquard/jacquardlaw11.MovesDo", spec := "movesDo", unfollowed := true, recurses := true, apart := false, narrowed := true }
def MovesDoUptoSaid : Prop := movesDoUptoRow.holds Try.pinned (OpenSpec.upto movesDoSpec)

/-- 'jacquardlaw11.MovesAlike', WHERE WHAT IT READS IS OF BULK AT MOST 1048576: true; the input reads as it did. -/
def movesAlikeUptoRow : OpenClaim := { program := "ytcceglmmpbdhiaa", sum := "625097704c760d482252fc45e34bf6a89a7a9a3c3be27ec8c92a6804067f51a0", func := "jacquard/jacquardlaw11.MovesAlike", spec := "movesAlike", unfollowed := true, recurses := true, apart := false, narrowed := true }
def MovesAlikeUptoSaid : Prop := movesAlikeUptoRow.holds Try.pinned (OpenSpec.upto movesAlikeSpec)

/-- 'jacquardlaw11.MovesOwn', WHERE WHAT IT READS IS OF BULK AT MOST 1048576: true; the input reads as it did. -/
def movesOwnUptoRow : OpenClaim := { program := "ytcceglmmpbdhiaa", sum := "625097704c760d482252fc45e34bf6a89a7a9a3c3be27ec8c92a6804067f51a0", func := "jacquard/jacquardlaw11.MovesOwn", spec := "movesOwn", unfollowed := true, recurses := true, apart := false, narrowed := true }
def MovesOwnUptoSaid : Prop := movesOwnUptoRow.holds Try.pinned (OpenSpec.upto movesOwnSpec)

/-- 'jacquardlaw11.MovesRound', WHERE WHAT IT READS IS OF BULK AT MOST 1048576: true; the input reads as it did. -/
def movesRoundUptoRow : OpenClaim := { program := "ytcceglmmpbdhiaa", sum := "625097704c760d482252fc45e34bf6a89a7a9a3c3be27ec8c92a6804067f51a0", func := "jacquard/jacquardlaw11.MovesRound", spec := "movesRound", unfollowed := true, recurses := true, apart := false, narrowed := true }
def MovesRoundUptoSaid : Prop := movesRoundUptoRow.holds Try.pinned (OpenSpec.upto movesRoundSpec)

end Rows
end Go.Proofs.Ytcceglmmpbdhiaa
