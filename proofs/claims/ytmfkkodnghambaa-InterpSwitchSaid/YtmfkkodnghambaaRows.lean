/-
  No cell of these rows narrows 'for every input' (looked for: loops, veiled, ifaces, maps, wideKeys, modest, calm, conditions, laid).
  DERIVED. THE GIVEN ROWS OF THIS SEAT. 7 by the template 'for every input the law returns true; each argument reads behind the call as it read before'; 0 by the template 'total and deterministic' (their statements: YtmfkkodnghambaaTotals.lean).
  GIVEN WITH THE SEED: the statements are not yours to turn. If you find one false, say at which input.
  Laid BY PROGRAM, IN A SANDBOX (cutbox-rows.mjs): the forced cells as the released guide's own fill.sh prints them over the translation ec299e5ab6172ef9… (all of the seat's roots in one cut). By AI agents, Wed Nov 11 2026. No macro, syntax, notation, axiom, sorry.
-/
import Derived.Test.YtmfkkodnghambaaChecked
import GoSem.Claim
import GoSem.ClaimJoined
import GoSem.ClaimMapViews
import Derived.JoinedTies
import Derived.KernelRfl
namespace Go.Proofs.Ytmfkkodnghambaa
/- THE CELL 'sum', in the pinned program and in every row, IS THE sha256 OF THE DUMP (.gsa) THAT YtmfkkodnghambaaProg.lean LOADS. Nothing in Lean hashes anything: it is a label: what it is worth is what the hold of that sum in a sandbox is worth. -/
noncomputable def Try.pinned : Pinned := { name := "ytmfkkodnghambaa", sum := "ec299e5ab6172ef952c1cb1f85614cbba44ee9ebd73b1378f8f1da82fd11654f", checked := Try.checked }
namespace Rows
def none {H : Type} : Left H := { results := [], args := [] }

/-- 'jacquardlaw04.InterpWords': WHATEVER THE INPUT: true; the input reads as it did. -/
def interpWordsSpec : ChangeSpec := { name := "interpWords", fn := fun _ => fun
  | [d1, d2] => { results := [.lit (.bool true)], args := [d1, d2] }
  | _ => none }
def interpWordsRow : OpenClaim := { program := "ytmfkkodnghambaa", sum := "ec299e5ab6172ef952c1cb1f85614cbba44ee9ebd73b1378f8f1da82fd11654f", func := "jacquard/jacquardlaw04.InterpWords", spec := "interpWords", unfollowed := true, recurses := true, apart := false }
def InterpWordsSaid : Prop := interpWordsRow.holds Try.pinned (OpenSpec.ofChange interpWordsSpec)

/-- ITS FALSE NEIGHBOUR: 'it returns false'. Refute it at one input. -/
def interpWordsWrong : ChangeSpec := { name := "interpWords", fn := fun _ => fun
  | [d1, d2] => { results := [.lit (.bool false)], args := [d1, d2] }
  | _ => none }
def InterpWordsWrongFalsely : Prop := interpWordsRow.holds Try.pinned (OpenSpec.ofChange interpWordsWrong)

/-- 'jacquardlaw04.InterpMemory': WHATEVER THE INPUT: true; the input reads as it did. -/
def interpMemorySpec : ChangeSpec := { name := "interpMemory", fn := fun _ => fun
  | [d1, d2, d3] => { results := [.lit (.bool true)], args := [d1, d2, d3] }
  | _ => none }
def interpMemoryRow : OpenClaim := { program := "ytmfkkodnghambaa", sum := "ec299e5ab6172ef952c1cb1f85614cbba44ee9ebd73b1378f8f1da82fd11654f", func := "jacquard/jacquardlaw04.InterpMemory", spec := "interpMemory", unfollowed := true, recurses := true, apart := false }
def InterpMemorySaid : Prop := interpMemoryRow.holds Try.pinned (OpenSpec.ofChange interpMemorySpec)

/-- ITS FALSE NEIGHBOUR: 'it returns false'. Refute it at one input. -/
def interpMemoryWrong : ChangeSpec := { name := "interpMemory", fn := fun _ => fun
  | [d1, d2, d3] => { results := [.lit (.bool false)], args := [d1, d2, d3] }
  | _ => none }
def InterpMemoryWrongFalsely : Prop := interpMemoryRow.holds Try.pinned (OpenSpec.ofChange interpMemoryWrong)

/-- 'jacquardlaw04.InterpLoop': WHATEVER THE INPUT: true; the input reads as it did. -/
def interpLoopSpec : ChangeSpec := { name := "interpLoop", fn := fun _ => fun
  | [d1, d2, d3] => { results := [.lit (.bool true)], args := [d1, d2, d3] }
  | _ => none }
def interpLoopRow : OpenClaim := { program := "ytmfkkodnghambaa", sum := "ec299e5ab6172ef952c1cb1f85614cbba44ee9ebd73b1378f8f1da82fd11654f", func := "jacquard/jacquardlaw04.InterpLoop", spec := "interpLoop", unfollowed := true, recurses := true, apart := false }
def InterpLoopSaid : Prop := interpLoopRow.holds Try.pinned (OpenSpec.ofChange interpLoopSpec)

/-- ITS FALSE NEIGHBOUR: 'it returns false'. Refute it at one input. -/
def interpLoopWrong : ChangeSpec := { name := "interpLoop", fn := fun _ => fun
  | [d1, d2, d3] => { results := [.lit (.bool false)], args := [d1, d2, d3] }
  | _ => none }
def InterpLoopWrongFalsely : Prop := interpLoopRow.holds Try.pinned (OpenSpec.ofChange interpLoopWrong)

/-- 'jacquardlaw04.InterpPhis': WHATEVER THE INPUT: true; the input reads as it did. -/
def interpPhisSpec : ChangeSpec := { name := "interpPhis", fn := fun _ => fun
  | [d1, d2, d3] => { results := [.lit (.bool true)], args := [d1, d2, d3] }
  | _ => none }
def interpPhisRow : OpenClaim := { program := "ytmfkkodnghambaa", sum := "ec299e5ab6172ef952c1cb1f85614cbba44ee9ebd73b1378f8f1da82fd11654f", func := "jacquard/jacquardlaw04.InterpPhis", spec := "interpPhis", unfollowed := true, recurses := true, apart := false }
def InterpPhisSaid : Prop := interpPhisRow.holds Try.pinned (OpenSpec.ofChange interpPhisSpec)

/-- ITS FALSE NEIGHBOUR: 'it returns false'. Refute it at one input. -/
def interpPhisWrong : ChangeSpec := { name := "interpPhis", fn := fun _ => fun
  | [d1, d2, d3] => { results := [.lit (.bool false)], args := [d1, d2, d3] }
  | _ => none }
def InterpPhisWrongFalsely : Prop := interpPhisRow.holds Try.pinned (OpenSpec.ofChange interpPhisWrong)

/-- 'jacquardlaw04.InterpSwitch': WHATEVER THE INPUT: true; the input reads as it did. -/
def interpSwitchSpec : ChangeSpec := { name := "interpSwitch", fn := fun _ => fun
  | [d1, d2] => { results := [.lit (.bool true)], args := [d1, d2] }
  | _ => none }
def interpSwitchRow : OpenClaim := { program := "ytmfkkodnghambaa", sum := "ec299e5ab6172ef952c1cb1f85614cbba44ee9ebd73b1378f8f1da82fd11654f", func := "jacquard/jacquardlaw04.InterpSwitch", spec := "interpSwitch", unfollowed := true, recurses := true, apart := false }
def InterpSwitchSaid : Prop := interpSwitchRow.holds Try.pinned (OpenSpec.ofChange interpSwitchSpec)

/-- ITS FALSE NEIGHBOUR: 'it returns false'. Refute it at one input. -/
def interpSwitchWrong : ChangeSpec := { name := "interpSwitch", fn := fun _ => fun
  | [d1, d2] => { results := [.lit (.bool false)], args := [d1, d2] }
  | _ => none }
def InterpSwitchWrongFalsely : Prop := interpSwitchRow.holds Try.pinned (OpenSpec.ofChange interpSwitchWrong)

/-- 'jacquardlaw04.InterpCalls': WHATEVER THE INPUT: true; the input reads as it did. -/
def interpCallsSpec : ChangeSpec := { name := "interpCalls", fn := fun _ => fun
  | [d1, d2, d3] => { results := [.lit (.bool true)], args := [d1, d2, d3] }
  | _ => none }
def interpCallsRow : OpenClaim := { program := "ytmfkkodnghambaa", sum := "ec299e5ab6172ef952c1cb1f85614cbba44ee9ebd73b1378f8f1da82fd11654f", func := "jacquard/jacquardlaw04.InterpCalls", spec := "interpCalls", unfollowed := true, recurses := true, apart := false }
def InterpCallsSaid : Prop := interpCallsRow.holds Try.pinned (OpenSpec.ofChange interpCallsSpec)

/-- ITS FALSE NEIGHBOUR: 'it returns false'. Refute it at one input. -/
def interpCallsWrong : ChangeSpec := { name := "interpCalls", fn := fun _ => fun
  | [d1, d2, d3] => { results := [.lit (.bool false)], args := [d1, d2, d3] }
  | _ => none }
def InterpCallsWrongFalsely : Prop := interpCallsRow.holds Try.pinned (OpenSpec.ofChange interpCallsWrong)

/-- 'jacquardlaw04.InterpSame': WHATEVER THE INPUT: true; the input reads as it did. -/
def interpSameSpec : ChangeSpec := { name := "interpSame", fn := fun _ => fun
  | [d1, d2, d3] => { results := [.lit (.bool true)], args := [d1, d2, d3] }
  | _ => none }
def interpSameRow : OpenClaim := { program := "ytmfkkodnghambaa", sum := "ec299e5ab6172ef952c1cb1f85614cbba44ee9ebd73b1378f8f1da82fd11654f", func := "jacquard/jacquardlaw04.InterpSame", spec := "interpSame", unfollowed := true, recurses := true, apart := false }
def InterpSameSaid : Prop := interpSameRow.holds Try.pinned (OpenSpec.ofChange interpSameSpec)

/-- ITS FALSE NEIGHBOUR: 'it returns false'. Refute it at one input. -/
def interpSameWrong : ChangeSpec := { name := "interpSame", fn := fun _ => fun
  | [d1, d2, d3] => { results := [.lit (.bool false)], args := [d1, d2, d3] }
  | _ => none }
def InterpSameWrongFalsely : Prop := interpSameRow.holds Try.pinned (OpenSpec.ofChange interpSameWrong)

/- THE SECOND FORM. 'bulk': how many values and letters a reading holds, each counted each time it is reached (what is shared counts as often as it is met; a slice's spare places count too). A statement '..UptoSaid' is the law's where the arguments, and the package variables that the reading takes, are together of bulk at most 1048576: NARROWER than '..Said'. Prove '..Said' where nothing that the law and all that it calls make is longer than what came in: it says more and counts as full. Else prove '..UptoSaid'. A law counts once. -/
mutual
def uptoBulk {H : Type} : DataW H → Nat
  | .lit (.string bytes) => bytes.length + 1
  | .lit _ => 1
  | .nil => 1
  | .ptr d => uptoBulk d + 1
  | .slice elems spare => uptoBulkAll elems + uptoBulkAll spare + 1
  | .agg parts => uptoBulkAll parts + 1
  | .iface _ d => uptoBulk d + 1
  | .map entries => uptoBulkEntries entries + 1
  | .held _ => 1
def uptoBulkAll {H : Type} : List (DataW H) → Nat
  | [] => 0
  | d :: r => uptoBulk d + uptoBulkAll r
def uptoBulkEntries {H : Type} : List (Lit × DataW H) → Nat
  | [] => 0
  | x :: r => uptoBulkEntry x + uptoBulkEntries r
def uptoBulkEntry {H : Type} : Lit × DataW H → Nat
  | (.string bytes, d) => bytes.length + uptoBulk d + 1
  | (_, d) => uptoBulk d + 1
 end
def uptoSmall : (H : Type) → List (DataW H) → Bool := fun _ ds => decide (uptoBulkAll ds ≤ 1048576)
def OpenSpec.upto (s : _root_.Go.ChangeSpec) : _root_.Go.OpenSpec := { _root_.Go.OpenSpec.ofChange s with cond := some uptoSmall }

/-- 'jacquardlaw04.InterpWords', WHERE WHAT IT READS IS OF BULK AT MOST 1048576: true; the input reads as it did. -/
def interpWordsUptoRow : OpenClaim := { program := "ytmfkkodnghambaa", sum := "ec299e5ab6172ef952c1cb1f85614cbba44ee9ebd73b1378f8f1da82fd11654f", func := "jacquard/jacquardlaw04.InterpWords", spec := "interpWords", unfollowed := true, recurses := true, apart := false, narrowed := true }
def InterpWordsUptoSaid : Prop := interpWordsUptoRow.holds Try.pinned (OpenSpec.upto interpWordsSpec)

/-- 'jacquardlaw04.InterpMemory', WHERE WHAT IT READS IS OF BULK AT MOST 1048576: true; the input reads as it did. -/
def interpMemoryUptoRow : OpenClaim := { program := "ytmfkkodnghambaa", sum := "ec299e5ab6172ef952c1cb1f85614cbba44ee9ebd73b1378f8f1da82fd11654f", func := "jacquard/jacquardlaw04.InterpMemory", spec := "interpMemory", unfollowed := true, recurses := true, apart := false, narrowed := true }
def InterpMemoryUptoSaid : Prop := interpMemoryUptoRow.holds Try.pinned (OpenSpec.upto interpMemorySpec)

/-- 'jacquardlaw04.InterpLoop', WHERE WHAT IT READS IS OF BULK AT MOST 1048576: true; the input reads as it did. -/
def interpLoopUptoRow : OpenClaim := { program := "ytmfkkodnghambaa", sum := "ec299e5ab6172ef952c1cb1f85614cbba44ee9ebd73b1378f8f1da82fd11654f", func := "jacquard/jacquardlaw04.InterpLoop", spec := "interpLoop", unfollowed := true, recurses := true, apart := false, narrowed := true }
def InterpLoopUptoSaid : Prop := interpLoopUptoRow.holds Try.pinned (OpenSpec.upto interpLoopSpec)

/-- 'jacquardlaw04.InterpPhis', WHERE WHAT IT READS IS OF BULK AT MOST 1048576: true; the input reads as it did. -/
def interpPhisUptoRow : OpenClaim := { program := "ytmfkkodnghambaa", sum := "ec299e5ab6172ef952c1cb1f85614cbba44ee9ebd73b1378f8f1da82fd11654f", func := "jacquard/jacquardlaw04.InterpPhis", spec := "interpPhis", unfollowed := true, recurses := true, apart := false, narrowed := true }
def InterpPhisUptoSaid : Prop := interpPhisUptoRow.holds Try.pinned (OpenSpec.upto interpPhisSpec)

/-- 'jacquardlaw04.InterpSwitch', WHERE WHAT IT READS IS OF BULK AT MOST 1048576: true; the input reads as it did. -/
def interpSwitchUptoRow : OpenClaim := { program := "ytmfkkodnghambaa", sum := "ec299e5ab6172ef952c1cb1f85614cbba44ee9ebd73b1378f8f1da82fd11654f", func := "jacquard/jacquardlaw04.InterpSwitch", spec := "interpSwitch", unfollowed := true, recurses := true, apart := false, narrowed := true }
def InterpSwitchUptoSaid : Prop := interpSwitchUptoRow.holds Try.pinned (OpenSpec.upto interpSwitchSpec)

/-- 'jacquardlaw04.InterpCalls', WHERE WHAT IT READS IS OF BULK AT MOST 1048576: true; the input reads as it did. -/
def interpCallsUptoRow : OpenClaim := { program := "ytmfkkodnghambaa", sum := "ec299e5ab6172ef952c1cb1f85614cbba44ee9ebd73b1378f8f1da82fd11654f", func := "jacquard/jacquardlaw04.InterpCalls", spec := "interpCalls", unfollowed := true, recurses := true, apart := false, narrowed := true }
def InterpCallsUptoSaid : Prop := interpCallsUptoRow.holds Try.pinned (OpenSpec.upto interpCallsSpec)

/-- 'jacquardlaw04.InterpSame', WHERE WHAT IT READS IS OF BULK AT MOST 1048576: true; the input reads as it did. -/
def interpSameUptoRow : OpenClaim := { program := "ytmfkkodnghambaa", sum := "ec299e5ab6172ef952c1cb1f85614cbba44ee9ebd73b1378f8f1da82fd11654f", func := "jacquard/jacquardlaw04.InterpSame", spec := "interpSame", unfollowed := true, recurses := true, apart := false, narrowed := true }
def InterpSameUptoSaid : Prop := interpSameUptoRow.holds Try.pinned (OpenSpec.upto interpSameSpec)

end Rows
end Go.Proofs.Ytmfkkodnghambaa
