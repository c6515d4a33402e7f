/-
  No cell of these rows narrows 'for every input' (looked for: loops, veiled, ifaces, maps, wideKeys, modest, calm, conditions, laid).
  DERIVED. THE GIVEN ROWS OF THIS SEAT. 8 by the template 'for every input the law returns true; each argument reads behind the call as it read before'; 0 by the template 'total and deterministic' (their statements: YtehhjlkmbdhckaaGreatTotals.lean).
  GIVEN WITH THE SEED: the statements are not yours to turn. If you find one false, say at which input.
  Laid BY PROGRAM, IN A SANDBOX (cutbox-rows.mjs): the forced cells as the released guide's own fill.sh prints them over the translation baf91b730666cb24… (all of the seat's roots in one cut). By AI agents, Wed Nov 11 2026. No macro, syntax, notation, axiom, sorry.
-/
import Derived.Test.YtehhjlkmbdhckaaGreatChecked
import GoSem.Claim
import GoSem.ClaimJoined
import GoSem.ClaimMapViews
import Derived.JoinedTies
import Derived.KernelRfl
namespace Go.Proofs.YtehhjlkmbdhckaaGreat
/- THE CELL 'sum', in the pinned program and in every row, IS THE sha256 OF THE DUMP (.gsa) THAT YtehhjlkmbdhckaaGreatProg.lean LOADS. Nothing in Lean hashes anything: it is a label: what it is worth is what the hold of that sum in a sandbox is worth. -/
noncomputable def Tryz.pinned : Pinned := { name := "ytehhjlkmbdhckaagreat", sum := "baf91b730666cb246317f27510bdee7d2114154d8495b247ab284e9bf9b1dc30", checked := Tryz.checked }
namespace Rows
def none {H : Type} : Left H := { results := [], args := [] }

/-- 'jacquardlaw10.LivePlaces': WHATEVER THE INPUT: true; the input reads as it did. -/
def livePlacesSpec : ChangeSpec := { name := "livePlaces", fn := fun _ => fun
  | [d1, d2, d3] => { results := [.lit (.bool true)], args := [d1, d2, d3] }
  | _ => none }
def livePlacesRow : OpenClaim := { program := "ytehhjlkmbdhckaagreat", sum := "baf91b730666cb246317f27510bdee7d2114154d8495b247ab284e9bf9b1dc30", func := "jacquard/jacquardlaw10.LivePlaces", spec := "livePlaces", unfollowed := true, recurses := true, apart := false }
def LivePlacesSaid : Prop := livePlacesRow.holds Tryz.pinned (OpenSpec.ofChange livePlacesSpec)

/-- ITS FALSE NEIGHBOUR: 'it returns false'. Refute it at one input. -/
def livePlacesWrong : ChangeSpec := { name := "livePlaces", fn := fun _ => fun
  | [d1, d2, d3] => { results := [.lit (.bool false)], args := [d1, d2, d3] }
  | _ => none }
def LivePlacesWrongFalsely : Prop := livePlacesRow.holds Tryz.pinned (OpenSpec.ofChange livePlacesWrong)

/-- 'jacquardlaw10.LiveTogether': WHATEVER THE INPUT: true; the input reads as it did. -/
def liveTogetherSpec : ChangeSpec := { name := "liveTogether", fn := fun _ => fun
  | [d1, d2, d3] => { results := [.lit (.bool true)], args := [d1, d2, d3] }
  | _ => none }
def liveTogetherRow : OpenClaim := { program := "ytehhjlkmbdhckaagreat", sum := "baf91b730666cb246317f27510bdee7d2114154d8495b247ab284e9bf9b1dc30", func := "jacquard/jacquardlaw10.LiveTogether", spec := "liveTogether", unfollowed := true, recurses := true, apart := false }
def LiveTogetherSaid : Prop := liveTogetherRow.holds Tryz.pinned (OpenSpec.ofChange liveTogetherSpec)

/-- ITS FALSE NEIGHBOUR: 'it returns false'. Refute it at one input. -/
def liveTogetherWrong : ChangeSpec := { name := "liveTogether", fn := fun _ => fun
  | [d1, d2, d3] => { results := [.lit (.bool false)], args := [d1, d2, d3] }
  | _ => none }
def LiveTogetherWrongFalsely : Prop := liveTogetherRow.holds Tryz.pinned (OpenSpec.ofChange liveTogetherWrong)

/-- 'jacquardlaw10.LiveNumbers': WHATEVER THE INPUT: true; the input reads as it did. -/
def liveNumbersSpec : ChangeSpec := { name := "liveNumbers", fn := fun _ => fun
  | [d] => { results := [.lit (.bool true)], args := [d] }
  | _ => none }
def liveNumbersRow : OpenClaim := { program := "ytehhjlkmbdhckaagreat", sum := "baf91b730666cb246317f27510bdee7d2114154d8495b247ab284e9bf9b1dc30", func := "jacquard/jacquardlaw10.LiveNumbers", spec := "liveNumbers", unfollowed := true, recurses := true, apart := false }
def LiveNumbersSaid : Prop := liveNumbersRow.holds Tryz.pinned (OpenSpec.ofChange liveNumbersSpec)

/-- ITS FALSE NEIGHBOUR: 'it returns false'. Refute it at one input. -/
def liveNumbersWrong : ChangeSpec := { name := "liveNumbers", fn := fun _ => fun
  | [d] => { results := [.lit (.bool false)], args := [d] }
  | _ => none }
def LiveNumbersWrongFalsely : Prop := liveNumbersRow.holds Tryz.pinned (OpenSpec.ofChange liveNumbersWrong)

/-- 'jacquardlaw10.LiveMost': WHATEVER THE INPUT: true; the input reads as it did. -/
def liveMostSpec : ChangeSpec := { name := "liveMost", fn := fun _ => fun
  | [d] => { results := [.lit (.bool true)], args := [d] }
  | _ => none }
def liveMostRow : OpenClaim := { program := "ytehhjlkmbdhckaagreat", sum := "baf91b730666cb246317f27510bdee7d2114154d8495b247ab284e9bf9b1dc30", func := "jacquard/jacquardlaw10.LiveMost", spec := "liveMost", unfollowed := true, recurses := true, apart := false }
def LiveMostSaid : Prop := liveMostRow.holds Tryz.pinned (OpenSpec.ofChange liveMostSpec)

/-- ITS FALSE NEIGHBOUR: 'it returns false'. Refute it at one input. -/
def liveMostWrong : ChangeSpec := { name := "liveMost", fn := fun _ => fun
  | [d] => { results := [.lit (.bool false)], args := [d] }
  | _ => none }
def LiveMostWrongFalsely : Prop := liveMostRow.holds Tryz.pinned (OpenSpec.ofChange liveMostWrong)

/-- 'jacquardlaw10.LiveSets': WHATEVER THE INPUT: true; the input reads as it did. -/
def liveSetsSpec : ChangeSpec := { name := "liveSets", fn := fun _ => fun
  | [d1, d2] => { results := [.lit (.bool true)], args := [d1, d2] }
  | _ => none }
def liveSetsRow : OpenClaim := { program := "ytehhjlkmbdhckaagreat", sum := "baf91b730666cb246317f27510bdee7d2114154d8495b247ab284e9bf9b1dc30", func := "jacquard/jacquardlaw10.LiveSets", spec := "liveSets", unfollowed := true, recurses := true, apart := false }
def LiveSetsSaid : Prop := liveSetsRow.holds Tryz.pinned (OpenSpec.ofChange liveSetsSpec)

/-- ITS FALSE NEIGHBOUR: 'it returns false'. Refute it at one input. -/
def liveSetsWrong : ChangeSpec := { name := "liveSets", fn := fun _ => fun
  | [d1, d2] => { results := [.lit (.bool false)], args := [d1, d2] }
  | _ => none }
def LiveSetsWrongFalsely : Prop := liveSetsRow.holds Tryz.pinned (OpenSpec.ofChange liveSetsWrong)

/-- 'jacquardlaw10.LiveFlows': WHATEVER THE INPUT: true; the input reads as it did. -/
def liveFlowsSpec : ChangeSpec := { name := "liveFlows", fn := fun _ => fun
  | [d] => { results := [.lit (.bool true)], args := [d] }
  | _ => none }
def liveFlowsRow : OpenClaim := { program := "ytehhjlkmbdhckaagreat", sum := "baf91b730666cb246317f27510bdee7d2114154d8495b247ab284e9bf9b1dc30", func := "jacquard/jacquardlaw10.LiveFlows", spec := "liveFlows", unfollowed := true, recurses := true, apart := false }
def LiveFlowsSaid : Prop := liveFlowsRow.holds Tryz.pinned (OpenSpec.ofChange liveFlowsSpec)

/-- ITS FALSE NEIGHBOUR: 'it returns false'. Refute it at one input. -/
def liveFlowsWrong : ChangeSpec := { name := "liveFlows", fn := fun _ => fun
  | [d] => { results := [.lit (.bool false)], args := [d] }
  | _ => none }
def LiveFlowsWrongFalsely : Prop := liveFlowsRow.holds Tryz.pinned (OpenSpec.ofChange liveFlowsWrong)

/-- 'jacquardlaw10.LiveNone': WHATEVER THE INPUT: true; the input reads as it did. -/
def liveNoneSpec : ChangeSpec := { name := "liveNone", fn := fun _ => fun
  | [d1, d2, d3] => { results := [.lit (.bool true)], args := [d1, d2, d3] }
  | _ => none }
def liveNoneRow : OpenClaim := { program := "ytehhjlkmbdhckaagreat", sum := "baf91b730666cb246317f27510bdee7d2114154d8495b247ab284e9bf9b1dc30", func := "jacquard/jacquardlaw10.LiveNone", spec := "liveNone", unfollowed := true, recurses := true, apart := false }
def LiveNoneSaid : Prop := liveNoneRow.holds Tryz.pinned (OpenSpec.ofChange liveNoneSpec)

/-- ITS FALSE NEIGHBOUR: 'it returns false'. Refute it at one input. -/
def liveNoneWrong : ChangeSpec := { name := "liveNone", fn := fun _ => fun
  | [d1, d2, d3] => { results := [.lit (.bool false)], args := [d1, d2, d3] }
  | _ => none }
def LiveNoneWrongFalsely : Prop := liveNoneRow.holds Tryz.pinned (OpenSpec.ofChange liveNoneWrong)

/-- 'jacquardlaw10.LiveDead': WHATEVER THE INPUT: true; the input reads as it did. -/
def liveDeadSpec : ChangeSpec := { name := "liveDead", fn := fun _ => fun
  | [d1, d2, d3] => { results := [.lit (.bool true)], args := [d1, d2, d3] }
  | _ => none }
def liveDeadRow : OpenClaim := { program := "ytehhjlkmbdhckaagreat", sum := "baf91b730666cb246317f27510bdee7d2114154d8495b247ab284e9bf9b1dc30", func := "jacquard/jacquardlaw10.LiveDead", spec := "liveDead", unfollowed := true, recurses := true, apart := false }
def LiveDeadSaid : Prop := liveDeadRow.holds Tryz.pinned (OpenSpec.ofChange liveDeadSpec)

/-- ITS FALSE NEIGHBOUR: 'it returns false'. Refute it at one input. -/
def liveDeadWrong : ChangeSpec := { name := "liveDead", fn := fun _ => fun
  | [d1, d2, d3] => { results := [.lit (.bool false)], args := [d1, d2, d3] }
  | _ => none }
def LiveDeadWrongFalsely : Prop := liveDeadRow.holds Tryz.pinned (OpenSpec.ofChange liveDeadWrong)

/- THE SECOND FORM. 'bulk': how many values and letters a reading holds, each counted each time it is reached (what is shared counts as often as it is met; a slice's spare places count too). A statement '..UptoSaid' is the law's where the arguments, and the package variables that the reading takes, are together of bulk at most 1048576: NARROWER than '..Said'. Prove '..Said' where nothing that the law and all that it calls make is longer than what came in: it says more and counts as full. Else prove '..UptoSaid'. A law counts once. -/
mutual
def uptoBulk {H : Type} : DataW H → Nat
  | .lit (.string bytes) => bytes.length + 1
  | .lit _ => 1
  | .nil => 1
  | .ptr d => uptoBulk d + 1
  | .slice elems spare => uptoBulkAll elems + uptoBulkAll spare + 1
  | .agg parts => uptoBulkAll parts + 1
  | .iface _ d => uptoBulk d + 1
  | .map entries => uptoBulkEntries entries + 1
  | .held _ => 1
def uptoBulkAll {H : Type} : List (DataW H) → Nat
  | [] => 0
  | d :: r => uptoBulk d + uptoBulkAll r
def uptoBulkEntries {H : Type} : List (Lit × DataW H) → Nat
  | [] => 0
  | x :: r => uptoBulkEntry x + uptoBulkEntries r
def uptoBulkEntry {H : Type} : Lit × DataW H → Nat
  | (.string bytes, d) => bytes.length + uptoBulk d + 1
  | (_, d) => uptoBulk d + 1
 end
def uptoSmall : (H : Type) → List (DataW H) → Bool := fun _ ds => decide (uptoBulkAll ds ≤ 1048576)
def OpenSpec.upto (s : _root_.Go.ChangeSpec) : _root_.Go.OpenSpec := { _root_.Go.OpenSpec.ofChange s with cond := some uptoSmall }

/-- 'jacquardlaw10.LivePlaces', WHERE WHAT IT READS IS OF BULK AT MOST 1048576: true; the input reads as it did. -/
def livePlacesUptoRow : OpenClaim := { program := "ytehhjlkmbdhckaagreat", sum := "baf91b730666cb246317f27510bdee7d2114154d8495b247ab284e9bf9b1dc30", func := "jacquard/jacquardlaw10.LivePlaces", spec := "livePlaces", unfollowed := true, recurses := true, apart := false, narrowed := true }
def LivePlacesUptoSaid : Prop := livePlacesUptoRow.holds Tryz.pinned (OpenSpec.upto livePlacesSpec)

/-- 'jacquardlaw10.LiveTogether', WHERE WHAT IT READS IS OF BULK AT MOST 1048576: true; the input reads as it did. -/
def liveTogetherUptoRow : OpenClaim := { program := "ytehhjlkmbdhckaagreat", sum := "baf91b730666cb246317f27510bdee7d2114154d8495b247ab284e9bf9b1dc30", func := "jacquard/jacquardlaw10.LiveTogether", spec := "liveTogether", unfollowed := true, recurses := true, apart := false, narrowed := true }
def LiveTogetherUptoSaid : Prop := liveTogetherUptoRow.holds Tryz.pinned (OpenSpec.upto liveTogetherSpec)

/-- 'jacquardlaw10.LiveNumbers', WHERE WHAT IT READS IS OF BULK AT MOST 1048576: true; the input reads as it did. -/
def liveNumbersUptoRow : OpenClaim := { program := "ytehhjlkmbdhckaagreat", sum := "baf91b730666cb246317f27510bdee7d2114154d8495b247ab284e9bf9b1dc30", func := "jacquard/jacquardlaw10.LiveNumbers", spec := "liveNumbers", unfollowed := true, recurses := true, apart := false, narrowed := true }
def LiveNumbersUptoSaid : Prop := liveNumbersUptoRow.holds Tryz.pinned (OpenSpec.upto liveNumbersSpec)

/-- 'jacquardlaw10.LiveMost', WHERE WHAT IT READS IS OF BULK AT MOST 1048576: true; the input reads as it did. -/
def liveMostUptoRow : OpenClaim := { program := "ytehhjlkmbdhckaagreat", sum := "baf91b730666cb246317f27510bdee7d2114154d8495b247ab284e9bf9b1dc30", func := "jacquard/jacquardlaw10.LiveMost", spec := "liveMost", unfollowed := true, recurses := true, apart := false, narrowed := true }
def LiveMostUptoSaid : Prop := liveMostUptoRow.holds Tryz.pinned (OpenSpec.upto liveMostSpec)

/-- 'jacquardlaw10.LiveSets', WHERE WHAT IT READS IS OF BULK AT MOST 1048576: true; the input reads as it did. -/
def liveSetsUptoRow : OpenClaim := { program := "ytehhjlkmbdhckaagreat", sum := "baf91b730666cb246317f27510bdee7d2114154d8495b247ab284e9bf9b1dc30", func := "jacquard/jacquardlaw10.LiveSets", spec := "liveSets", unfollowed := true, recurses := true, apart := false, narrowed := true }
def LiveSetsUptoSaid : Prop := liveSetsUptoRow.holds Tryz.pinned (OpenSpec.upto liveSetsSpec)

/-- 'jacquardlaw10.LiveFlows', WHERE WHAT IT READS IS OF BULK AT MOST 1048576: true; the input reads as it did. -/
def liveFlowsUptoRow : OpenClaim := { program := "ytehhjlkmbdhckaagreat", sum := "baf91b730666cb246317f27510bdee7d2114154d8495b247ab284e9bf9b1dc30", func := "jacquard/jacquardlaw10.LiveFlows", spec := "liveFlows", unfollowed := true, recurses := true, apart := false, narrowed := true }
def LiveFlowsUptoSaid : Prop := liveFlowsUptoRow.holds Tryz.pinned (OpenSpec.upto liveFlowsSpec)

/-- 'jacquardlaw10.LiveNone', WHERE WHAT IT READS IS OF BULK AT MOST 1048576: true; the input reads as it did. -/
def liveNoneUptoRow : OpenClaim := { program := "ytehhjlkmbdhckaagreat", sum := "baf91b730666cb246317f27510bdee7d2114154d8495b247ab284e9bf9b1dc30", func := "jacquard/jacquardlaw10.LiveNone", spec := "liveNone", unfollowed := true, recurses := true, apart := false, narrowed := true }
def LiveNoneUptoSaid : Prop := liveNoneUptoRow.holds Tryz.pinned (OpenSpec.upto liveNoneSpec)

/-- 'jacquardlaw10.LiveDead', WHERE WHAT IT READS IS OF BULK AT MOST 1048576: true; the input reads as it did. -/
def liveDeadUptoRow : OpenClaim := { program := "ytehhjlkmbdhckaagreat", sum := "baf91b730666cb246317f27510bdee7d2114154d8495b247ab284e9bf9b1dc30", func := "jacquard/jacquardlaw10.LiveDead", spec := "liveDead", unfollowed := true, recurses := true, apart := false, narrowed := true }
def LiveDeadUptoSaid : Prop := liveDeadUptoRow.holds Tryz.pinned (OpenSpec.upto liveDeadSpec)

end Rows
end Go.Proofs.YtehhjlkmbdhckaaGreat
