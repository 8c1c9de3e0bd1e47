/-
  No cell of these rows narrows 'for every input' (looked for: loops, veiled, ifaces, maps, wideKeys, modest, calm, conditions, laid).
  DERIVED. THE GIVEN ROWS OF THIS SEAT. 4 by the template 'for every input the law returns true; each argument reads behind the call as it read before'; 0 by the template 'total and deterministic' (their statements: YtdofkakbfolpkaaTotals.lean).
  GIVEN WITH THE SEED: the statements are not yours to turn. If you find one false, say at which input.
  Laid BY PROGRAM, IN A SANDBOX (cutbox-rows.mjs): the forced cells as the released guide's own fill.sh prints them over the translation 5ad37f1de07ba29b… (all of the seat's roots in one cut). By AI agents, Wed Nov 11 2026. No macro, syntax, notation, axiom, sorry.
-/
import Derived.Test.YtdofkakbfolpkaaChecked
import GoSem.Claim
import GoSem.ClaimJoined
import GoSem.ClaimMapViews
import Derived.JoinedTies
import Derived.KernelRfl
namespace Go.Proofs.Ytdofkakbfolpkaa
/- THE CELL 'sum', in the pinned program and in every row, IS THE sha256 OF THE DUMP (.gsa) THAT YtdofkakbfolpkaaProg.lean LOADS. Nothing in Lean hashes anything: it is a label: what it is worth is what the hold of that sum in a sandbox is worth. -/
noncomputable def Try.pinned : Pinned := { name := "ytdofkakbfolpkaa", sum := "5ad37f1de07ba29b5e3a0d931ebd61c8ded521296fa6b11c08d686bc083d3d4e", checked := Try.checked }
namespace Rows
def none {H : Type} : Left H := { results := [], args := [] }

/-- 'plantwrightlaw.SafetyCheck': WHATEVER THE INPUT: true; the input reads as it did. -/
def safetyCheckSpec : ChangeSpec := { name := "safetyCheck", fn := fun _ => fun
  | [d] => { results := [.lit (.bool true)], args := [d] }
  | _ => none }
def safetyCheckRow : OpenClaim := { program := "ytdofkakbfolpkaa", sum := "5ad37f1de07ba29b5e3a0d931ebd61c8ded521296fa6b11c08d686bc083d3d4e", func := "plantwright/plantwrightlaw.SafetyCheck", spec := "safetyCheck", unfollowed := true, recurses := true, apart := false }
def SafetyCheckSaid : Prop := safetyCheckRow.holds Try.pinned (OpenSpec.ofChange safetyCheckSpec)

/-- ITS FALSE NEIGHBOUR: 'it returns false'. Refute it at one input. -/
def safetyCheckWrong : ChangeSpec := { name := "safetyCheck", fn := fun _ => fun
  | [d] => { results := [.lit (.bool false)], args := [d] }
  | _ => none }
def SafetyCheckWrongFalsely : Prop := safetyCheckRow.holds Try.pinned (OpenSpec.ofChange safetyCheckWrong)

/-- 'plantwrightlaw.SafetyStep': WHATEVER THE INPUT: true; the input reads as it did. -/
def safetyStepSpec : ChangeSpec := { name := "safetyStep", fn := fun _ => fun
  | [d1, d2, d3, d4] => { results := [.lit (.bool true)], args := [d1, d2, d3, d4] }
  | _ => none }
def safetyStepRow : OpenClaim := { program := "ytdofkakbfolpkaa", sum := "5ad37f1de07ba29b5e3a0d931ebd61c8ded521296fa6b11c08d686bc083d3d4e", func := "plantwright/plantwrightlaw.SafetyStep", spec := "safetyStep", unfollowed := true, recurses := true, apart := false }
def SafetyStepSaid : Prop := safetyStepRow.holds Try.pinned (OpenSpec.ofChange safetyStepSpec)

/-- ITS FALSE NEIGHBOUR: 'it returns false'. Refute it at one input. -/
def safetyStepWrong : ChangeSpec := { name := "safetyStep", fn := fun _ => fun
  | [d1, d2, d3, d4] => { results := [.lit (.bool false)], args := [d1, d2, d3, d4] }
  | _ => none }
def SafetyStepWrongFalsely : Prop := safetyStepRow.holds Try.pinned (OpenSpec.ofChange safetyStepWrong)

/-- 'plantwrightkeep.SafetyHolds': WHATEVER THE INPUT: true; the input reads as it did. -/
def safetyHoldsSpec : ChangeSpec := { name := "safetyHolds", fn := fun _ => fun
  | [d1, d2, d3] => { results := [.lit (.bool true)], args := [d1, d2, d3] }
  | _ => none }
def safetyHoldsRow : OpenClaim := { program := "ytdofkakbfolpkaa", sum := "5ad37f1de07ba29b5e3a0d931ebd61c8ded521296fa6b11c08d686bc083d3d4e", func := "plantwright/plantwrightkeep.SafetyHolds", spec := "safetyHolds", unfollowed := true, recurses := true, apart := false }
def SafetyHoldsSaid : Prop := safetyHoldsRow.holds Try.pinned (OpenSpec.ofChange safetyHoldsSpec)

/-- ITS FALSE NEIGHBOUR: 'it returns false'. Refute it at one input. -/
def safetyHoldsWrong : ChangeSpec := { name := "safetyHolds", fn := fun _ => fun
  | [d1, d2, d3] => { results := [.lit (.bool false)], args := [d1, d2, d3] }
  | _ => none }
def SafetyHoldsWrongFalsely : Prop := safetyHoldsRow.holds Try.pinned (OpenSpec.ofChange safetyHoldsWrong)

/-- 'plantwrightkeep.SafetyVotes': WHATEVER THE INPUT: true; the input reads as it did. -/
def safetyVotesSpec : ChangeSpec := { name := "safetyVotes", fn := fun _ => fun
  | [d1, d2, d3, d4] => { results := [.lit (.bool true)], args := [d1, d2, d3, d4] }
  | _ => none }
def safetyVotesRow : OpenClaim := { program := "ytdofkakbfolpkaa", sum := "5ad37f1de07ba29b5e3a0d931ebd61c8ded521296fa6b11c08d686bc083d3d4e", func := "plantwright/plantwrightkeep.SafetyVotes", spec := "safetyVotes", unfollowed := true, recurses := true, apart := false }
def SafetyVotesSaid : Prop := safetyVotesRow.holds Try.pinned (OpenSpec.ofChange safetyVotesSpec)

/-- ITS FALSE NEIGHBOUR: 'it returns false'. Refute it at one input. -/
def safetyVotesWrong : ChangeSpec := { name := "safetyVotes", fn := fun _ => fun
  | [d1, d2, d3, d4] => { results := [.lit (.bool false)], args := [d1, d2, d3, d4] }
  | _ => none }
def SafetyVotesWrongFalsely : Prop := safetyVotesRow.holds Try.pinned (OpenSpec.ofChange safetyVotesWrong)

/- THE SECOND FORM. 'bulk': how many values and letters a reading holds, each counted each time it is reached (what is shared counts as often as it is met; a slice's spare places count too). A statement '..UptoSaid' is the law's where the arguments, and the package variables that the reading takes, are together of bulk at most 1048576: NARROWER than '..Said'. Prove '..Said' where nothing that the law and all that it calls make is longer than what came in: it says more and counts as full. Else prove '..UptoSaid'. A law counts once. -/
mutual
def uptoBulk {H : Type} : DataW H → Nat
  | .lit (.string bytes) => bytes.length + 1
  | .lit _ => 1
  | .nil => 1
  | .ptr d => uptoBulk d + 1
  | .slice elems spare => uptoBulkAll elems + uptoBulkAll spare + 1
  | .agg parts => uptoBulkAll parts + 1
  | .iface _ d => uptoBulk d + 1
  | .map entries => uptoBulkEntries entries + 1
  | .held _ => 1
def uptoBulkAll {H : Type} : List (DataW H) → Nat
  | [] => 0
  | d :: r => uptoBulk d + uptoBulkAll r
def uptoBulkEntries {H : Type} : List (Lit × DataW H) → Nat
  | [] => 0
  | x :: r => uptoBulkEntry x + uptoBulkEntries r
def uptoBulkEntry {H : Type} : Lit × DataW H → Nat
  | (.string bytes, d) => bytes.length + uptoBulk d + 1
  | (_, d) => uptoBulk d + 1
 end
def uptoSmall : (H : Type) → List (DataW H) → Bool := fun _ ds => decide (uptoBulkAll ds ≤ 1048576)
def OpenSpec.upto (s : _root_.Go.ChangeSpec) : _root_.Go.OpenSpec := { _root_.Go.OpenSpec.ofChange s with cond := some uptoSmall }

/-- 'plantwrightlaw.SafetyCheck', WHERE WHAT IT READS IS OF BULK AT MOST 1048576: true; the input reads as it did. -/
def safetyCheckUptoRow : OpenClaim := { program := "ytdofkakbfolpkaa", sum := "5ad37f1de07ba29b5e3a0d931ebd61c8ded521296fa6b11c08d686bc083d3d4e", func := "plantwright/plantwrightlaw.SafetyCheck", spec := "safetyCheck", unfollowed := true, recurses := true, apart := false, narrowed := true }
def SafetyCheckUptoSaid : Prop := safetyCheckUptoRow.holds Try.pinned (OpenSpec.upto safetyCheckSpec)

/-- 'plantwrightlaw.SafetyStep', WHERE WHAT IT READS IS OF BULK AT MOST 1048576: true; the input reads as it did. -/
def safetyStepUptoRow : OpenClaim := { program := "ytdofkakbfolpkaa", sum := "5ad37f1de07ba29b5e3a0d931ebd61c8ded521296fa6b11c08d686bc083d3d4e", func := "plantwright/plantwrightlaw.SafetyStep", spec := "safetyStep", unfollowed := true, recurses := true, apart := false, narrowed := true }
def SafetyStepUptoSaid : Prop := safetyStepUptoRow.holds Try.pinned (OpenSpec.upto safetyStepSpec)

/-- 'plantwrightkeep.SafetyHolds', WHERE WHAT IT READS IS OF BULK AT MOST 1048576: true; the input reads as it did. -/
def safetyHoldsUptoRow : OpenClaim := { program := "ytdofkakbfolpkaa", sum := "5ad37f1de07ba29b5e3a0d931ebd61c8ded521296fa6b11c08d686bc083d3d4e", func := "plantwright/plantwrightkeep.SafetyHolds", spec := "safetyHolds", unfollowed := true, recurses := true, apart := false, narrowed := true }
def SafetyHoldsUptoSaid : Prop := safetyHoldsUptoRow.holds Try.pinned (OpenSpec.upto safetyHoldsSpec)

/-- 'plantwrightkeep.SafetyVotes', WHERE WHAT IT READS IS OF BULK AT MOST 1048576: true; the input reads as it did. -/
def safetyVotesUptoRow : OpenClaim := { program := "ytdofkakbfolpkaa", sum := "5ad37f1de07ba29b5e3a0d931ebd61c8ded521296fa6b11c08d686bc083d3d4e", func := "plantwright/plantwrightkeep.SafetyVotes", spec := "safetyVotes", unfollowed := true, recurses := true, apart := false, narrowed := true }
def SafetyVotesUptoSaid : Prop := safetyVotesUptoRow.holds Try.pinned (OpenSpec.upto safetyVotesSpec)

end Rows
end Go.Proofs.Ytdofkakbfolpkaa
