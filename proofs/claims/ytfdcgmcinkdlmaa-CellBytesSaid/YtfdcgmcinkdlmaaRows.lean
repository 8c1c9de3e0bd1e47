/-
  No cell of these rows narrows 'for every input' (looked for: loops, veiled, ifaces, maps, wideKeys, modest, calm, conditions, laid).
  DERIVED. THE GIVEN ROWS OF THIS SEAT. 5 by the template 'for every input the law returns true; each argument reads behind the call as it read before'; 0 by the template 'total and deterministic' (their statements: YtfdcgmcinkdlmaaTotals.lean).
  GIVEN WITH THE SEED: the statements are not yours to turn. If you find one false, say at which input.
  Laid BY PROGRAM, IN A SANDBOX (cutbox-rows.mjs): the forced cells as the released guide's own fill.sh prints them over the translation 2bee36054ad47f62… (all of the seat's roots in one cut). By AI agents, Wed Nov 11 2026. No macro, syntax, notation, axiom, sorry.
-/
import Derived.Test.YtfdcgmcinkdlmaaChecked
import GoSem.Claim
import GoSem.ClaimJoined
import GoSem.ClaimMapViews
import Derived.JoinedTies
import Derived.KernelRfl
namespace Go.Proofs.Ytfdcgmcinkdlmaa
/- THE CELL 'sum', in the pinned program and in every row, IS THE sha256 OF THE DUMP (.gsa) THAT YtfdcgmcinkdlmaaProg.lean LOADS. Nothing in Lean hashes anything: it is a label: what it is worth is what the hold of that sum in a sandbox is worth. -/
noncomputable def Try.pinned : Pinned := { name := "ytfdcgmcinkdlmaa", sum := "2bee36054ad47f621a4516dff7faa2c142030aa3d20fa098a5da80512d76ac94", checked := Try.checked }
namespace Rows
def none {H : Type} : Left H := { results := [], args := [] }

/-- 'plantwrightlaw.CellBytes': WHATEVER THE INPUT: true; the input reads as it did. -/
def cellBytesSpec : ChangeSpec := { name := "cellBytes", fn := fun _ => fun
  | [d1, d2, d3] => { results := [.lit (.bool true)], args := [d1, d2, d3] }
  | _ => none }
def cellBytesRow : OpenClaim := { program := "ytfdcgmcinkdlmaa", sum := "2bee36054ad47f621a4516dff7faa2c142030aa3d20fa098a5da80512d76ac94", func := "plantwright/plantwrightlaw.CellBytes", spec := "cellBytes", apart := false }
def CellBytesSaid : Prop := cellBytesRow.holds Try.pinned (OpenSpec.ofChange cellBytesSpec)

/-- ITS FALSE NEIGHBOUR: 'it returns false'. Refute it at one input. -/
def cellBytesWrong : ChangeSpec := { name := "cellBytes", fn := fun _ => fun
  | [d1, d2, d3] => { results := [.lit (.bool false)], args := [d1, d2, d3] }
  | _ => none }
def CellBytesWrongFalsely : Prop := cellBytesRow.holds Try.pinned (OpenSpec.ofChange cellBytesWrong)

/-- 'plantwrightkeep.CellRing': WHATEVER THE INPUT: true; the input reads as it did. -/
def cellRingSpec : ChangeSpec := { name := "cellRing", fn := fun _ => fun
  | [d1, d2, d3] => { results := [.lit (.bool true)], args := [d1, d2, d3] }
  | _ => none }
def cellRingRow : OpenClaim := { program := "ytfdcgmcinkdlmaa", sum := "2bee36054ad47f621a4516dff7faa2c142030aa3d20fa098a5da80512d76ac94", func := "plantwright/plantwrightkeep.CellRing", spec := "cellRing", apart := false }
def CellRingSaid : Prop := cellRingRow.holds Try.pinned (OpenSpec.ofChange cellRingSpec)

/-- ITS FALSE NEIGHBOUR: 'it returns false'. Refute it at one input. -/
def cellRingWrong : ChangeSpec := { name := "cellRing", fn := fun _ => fun
  | [d1, d2, d3] => { results := [.lit (.bool false)], args := [d1, d2, d3] }
  | _ => none }
def CellRingWrongFalsely : Prop := cellRingRow.holds Try.pinned (OpenSpec.ofChange cellRingWrong)

/-- 'plantwrightkeep.CellDivides': WHATEVER THE INPUT: true; the input reads as it did. -/
def cellDividesSpec : ChangeSpec := { name := "cellDivides", fn := fun _ => fun
  | [d1, d2, d3] => { results := [.lit (.bool true)], args := [d1, d2, d3] }
  | _ => none }
def cellDividesRow : OpenClaim := { program := "ytfdcgmcinkdlmaa", sum := "2bee36054ad47f621a4516dff7faa2c142030aa3d20fa098a5da80512d76ac94", func := "plantwright/plantwrightkeep.CellDivides", spec := "cellDivides", apart := false }
def CellDividesSaid : Prop := cellDividesRow.holds Try.pinned (OpenSpec.ofChange cellDividesSpec)

/-- ITS FALSE NEIGHBOUR: 'it returns false'. Refute it at one input. -/
def cellDividesWrong : ChangeSpec := { name := "cellDivides", fn := fun _ => fun
  | [d1, d2, d3] => { results := [.lit (.bool false)], args := [d1, d2, d3] }
  | _ => none }
def CellDividesWrongFalsely : Prop := cellDividesRow.holds Try.pinned (OpenSpec.ofChange cellDividesWrong)

/-- 'plantwrightkeep.CellTurns': WHATEVER THE INPUT: true; the input reads as it did. -/
def cellTurnsSpec : ChangeSpec := { name := "cellTurns", fn := fun _ => fun
  | [d1, d2] => { results := [.lit (.bool true)], args := [d1, d2] }
  | _ => none }
def cellTurnsRow : OpenClaim := { program := "ytfdcgmcinkdlmaa", sum := "2bee36054ad47f621a4516dff7faa2c142030aa3d20fa098a5da80512d76ac94", func := "plantwright/plantwrightkeep.CellTurns", spec := "cellTurns", apart := false }
def CellTurnsSaid : Prop := cellTurnsRow.holds Try.pinned (OpenSpec.ofChange cellTurnsSpec)

/-- ITS FALSE NEIGHBOUR: 'it returns false'. Refute it at one input. -/
def cellTurnsWrong : ChangeSpec := { name := "cellTurns", fn := fun _ => fun
  | [d1, d2] => { results := [.lit (.bool false)], args := [d1, d2] }
  | _ => none }
def CellTurnsWrongFalsely : Prop := cellTurnsRow.holds Try.pinned (OpenSpec.ofChange cellTurnsWrong)

/-- 'plantwrightlaw.CellDoes': WHATEVER THE INPUT: true; the input reads as it did. -/
def cellDoesSpec : ChangeSpec := { name := "cellDoes", fn := fun _ => fun
  | [d1, d2, d3, d4, d5] => { results := [.lit (.bool true)], args := [d1, d2, d3, d4, d5] }
  | _ => none }
def cellDoesRow : OpenClaim := { program := "ytfdcgmcinkdlmaa", sum := "2bee36054ad47f621a4516dff7faa2c142030aa3d20fa098a5da80512d76ac94", func := "plantwright/plantwrightlaw.CellDoes", spec := "cellDoes", apart := false }
def CellDoesSaid : Prop := cellDoesRow.holds Try.pinned (OpenSpec.ofChange cellDoesSpec)

/-- ITS FALSE NEIGHBOUR: 'it returns false'. Refute it at one input. -/
def cellDoesWrong : ChangeSpec := { name := "cellDoes", fn := fun _ => fun
  | [d1, d2, d3, d4, d5] => { results := [.lit (.bool false)], args := [d1, d2, d3, d4, d5] }
  | _ => none }
def CellDoesWrongFalsely : Prop := cellDoesRow.holds Try.pinned (OpenSpec.ofChange cellDoesWrong)

/- THE SECOND FORM. 'bulk': how many values and letters a reading holds, each counted each time it is reached (what is shared counts as often as it is met; a slice's spare places count too). A statement '..UptoSaid' is the law's where the arguments, and the package variables that the reading takes, are together of bulk at most 1048576: NARROWER than '..Said'. Prove '..Said' where nothing that the law and all that it calls make is longer than what came in: it says more and counts as full. Else prove '..UptoSaid'. A law counts once. -/
mutual
def uptoBulk {H : Type} : DataW H → Nat
  | .lit (.string bytes) => bytes.length + 1
  | .lit _ => 1
  | .nil => 1
  | .ptr d => uptoBulk d + 1
  | .slice elems spare => uptoBulkAll elems + uptoBulkAll spare + 1
  | .agg parts => uptoBulkAll parts + 1
  | .iface _ d => uptoBulk d + 1
  | .map entries => uptoBulkEntries entries + 1
  | .held _ => 1
def uptoBulkAll {H : Type} : List (DataW H) → Nat
  | [] => 0
  | d :: r => uptoBulk d + uptoBulkAll r
def uptoBulkEntries {H : Type} : List (Lit × DataW H) → Nat
  | [] => 0
  | x :: r => uptoBulkEntry x + uptoBulkEntries r
def uptoBulkEntry {H : Type} : Lit × DataW H → Nat
  | (.string bytes, d) => bytes.length + uptoBulk d + 1
  | (_, d) => uptoBulk d + 1
 end
def uptoSmall : (H : Type) → List (DataW H) → Bool := fun _ ds => decide (uptoBulkAll ds ≤ 1048576)
def OpenSpec.upto (s : _root_.Go.ChangeSpec) : _root_.Go.OpenSpec := { _root_.Go.OpenSpec.ofChange s with cond := some uptoSmall }

/-- 'plantwrightlaw.CellBytes', WHERE WHAT IT READS IS OF BULK AT MOST 1048576: true; the input reads as it did. -/
def cellBytesUptoRow : OpenClaim := { program := "ytfdcgmcinkdlmaa", sum := "2bee36054ad47f621a4516dff7faa2c142030aa3d20fa098a5da80512d76ac94", func := "plantwright/plantwrightlaw.CellBytes", spec := "cellBytes", apart := false, narrowed := true }
def CellBytesUptoSaid : Prop := cellBytesUptoRow.holds Try.pinned (OpenSpec.upto cellBytesSpec)

/-- 'plantwrightkeep.CellRing', WHERE WHAT IT READS IS OF BULK AT MOST 1048576: true; the input reads as it did. -/
def cellRingUptoRow : OpenClaim := { program := "ytfdcgmcinkdlmaa", sum := "2bee36054ad47f621a4516dff7faa2c142030aa3d20fa098a5da80512d76ac94", func := "plantwright/plantwrightkeep.CellRing", spec := "cellRing", apart := false, narrowed := true }
def CellRingUptoSaid : Prop := cellRingUptoRow.holds Try.pinned (OpenSpec.upto cellRingSpec)

/-- 'plantwrightkeep.CellDivides', WHERE WHAT IT READS IS OF BULK AT MOST 1048576: true; the input reads as it did. -/
def cellDividesUptoRow : OpenClaim := { program := "ytfdcgmcinkdlmaa", sum := "2bee36054ad47f621a4516dff7faa2c142030aa3d20fa098a5da80512d76ac94", func := "plantwright/plantwrightkeep.CellDivides", spec := "cellDivides", apart := false, narrowed := true }
def CellDividesUptoSaid : Prop := cellDividesUptoRow.holds Try.pinned (OpenSpec.upto cellDividesSpec)

/-- 'plantwrightkeep.CellTurns', WHERE WHAT IT READS IS OF BULK AT MOST 1048576: true; the input reads as it did. -/
def cellTurnsUptoRow : OpenClaim := { program := "ytfdcgmcinkdlmaa", sum := "2bee36054ad47f621a4516dff7faa2c142030aa3d20fa098a5da80512d76ac94", func := "plantwright/plantwrightkeep.CellTurns", spec := "cellTurns", apart := false, narrowed := true }
def CellTurnsUptoSaid : Prop := cellTurnsUptoRow.holds Try.pinned (OpenSpec.upto cellTurnsSpec)

/-- 'plantwrightlaw.CellDoes', WHERE WHAT IT READS IS OF BULK AT MOST 1048576: true; the input reads as it did. -/
def cellDoesUptoRow : OpenClaim := { program := "ytfdcgmcinkdlmaa", sum := "2bee36054ad47f621a4516dff7faa2c142030aa3d20fa098a5da80512d76ac94", func := "plantwright/plantwrightlaw.CellDoes", spec := "cellDoes", apart := false, narrowed := true }
def CellDoesUptoSaid : Prop := cellDoesUptoRow.holds Try.pinned (OpenSpec.upto cellDoesSpec)

end Rows
end Go.Proofs.Ytfdcgmcinkdlmaa
