/-
  No cell of these rows narrows 'for every input' (looked for: loops, veiled, ifaces, maps, wideKeys, modest, calm, conditions, laid).
  DERIVED. THE GIVEN ROWS OF THIS SEAT. 5 by the template 'for every input the law returns true; each argument reads behind the call as it read before'; 0 by the template 'total and deterministic' (their statements: YthnpeekeoaiaoaaTotals.lean).
  GIVEN WITH THE SEED: the statements are not yours to turn. If you find one false, say at which input.
  Laid BY PROGRAM, IN A SANDBOX (cutbox-rows.mjs): the forced cells as the released guide's own fill.sh prints them over the translation c5f6eeb6eaa4a657… (all of the seat's roots in one cut). By AI agents, Wed Nov 11 2026. No macro, syntax, notation, axiom, sorry.
-/
import Derived.Test.YthnpeekeoaiaoaaChecked
import GoSem.Claim
import GoSem.ClaimJoined
import GoSem.ClaimMapViews
import Derived.JoinedTies
import Derived.KernelRfl
namespace Go.Proofs.Ythnpeekeoaiaoaa
/- THE CELL 'sum', in the pinned program and in every row, IS THE sha256 OF THE DUMP (.gsa) THAT YthnpeekeoaiaoaaProg.lean LOADS. Nothing in Lean hashes anything: it is a label: what it is worth is what the hold of that sum in a sandbox is worth. -/
noncomputable def Try.pinned : Pinned := { name := "ythnpeekeoaiaoaa", sum := "c5f6eeb6eaa4a65745c5f2804bbc809cd43011524ed6e100dbf947ef6a07d52a", checked := Try.checked }
namespace Rows
def none {H : Type} : Left H := { results := [], args := [] }

/-- 'plantwrightlaw.TasksRespond': WHATEVER THE INPUT: true; the input reads as it did. -/
def tasksRespondSpec : ChangeSpec := { name := "tasksRespond", fn := fun _ => fun
  | [d] => { results := [.lit (.bool true)], args := [d] }
  | _ => none }
def tasksRespondRow : OpenClaim := { program := "ythnpeekeoaiaoaa", sum := "c5f6eeb6eaa4a65745c5f2804bbc809cd43011524ed6e100dbf947ef6a07d52a", func := "plantwright/plantwrightlaw.TasksRespond", spec := "tasksRespond", unfollowed := true, recurses := true, apart := false }
def TasksRespondSaid : Prop := tasksRespondRow.holds Try.pinned (OpenSpec.ofChange tasksRespondSpec)

/-- ITS FALSE NEIGHBOUR: 'it returns false'. Refute it at one input. -/
def tasksRespondWrong : ChangeSpec := { name := "tasksRespond", fn := fun _ => fun
  | [d] => { results := [.lit (.bool false)], args := [d] }
  | _ => none }
def TasksRespondWrongFalsely : Prop := tasksRespondRow.holds Try.pinned (OpenSpec.ofChange tasksRespondWrong)

/-- 'plantwrightlaw.TasksPlay': WHATEVER THE INPUT: true; the input reads as it did. -/
def tasksPlaySpec : ChangeSpec := { name := "tasksPlay", fn := fun _ => fun
  | [d1, d2] => { results := [.lit (.bool true)], args := [d1, d2] }
  | _ => none }
def tasksPlayRow : OpenClaim := { program := "ythnpeekeoaiaoaa", sum := "c5f6eeb6eaa4a65745c5f2804bbc809cd43011524ed6e100dbf947ef6a07d52a", func := "plantwright/plantwrightlaw.TasksPlay", spec := "tasksPlay", unfollowed := true, recurses := true, apart := false }
def TasksPlaySaid : Prop := tasksPlayRow.holds Try.pinned (OpenSpec.ofChange tasksPlaySpec)

/-- ITS FALSE NEIGHBOUR: 'it returns false'. Refute it at one input. -/
def tasksPlayWrong : ChangeSpec := { name := "tasksPlay", fn := fun _ => fun
  | [d1, d2] => { results := [.lit (.bool false)], args := [d1, d2] }
  | _ => none }
def TasksPlayWrongFalsely : Prop := tasksPlayRow.holds Try.pinned (OpenSpec.ofChange tasksPlayWrong)

/-- 'plantwrightkeep.TasksMeet': WHATEVER THE INPUT: true; the input reads as it did. -/
def tasksMeetSpec : ChangeSpec := { name := "tasksMeet", fn := fun _ => fun
  | [d1, d2] => { results := [.lit (.bool true)], args := [d1, d2] }
  | _ => none }
def tasksMeetRow : OpenClaim := { program := "ythnpeekeoaiaoaa", sum := "c5f6eeb6eaa4a65745c5f2804bbc809cd43011524ed6e100dbf947ef6a07d52a", func := "plantwright/plantwrightkeep.TasksMeet", spec := "tasksMeet", unfollowed := true, recurses := true, apart := false }
def TasksMeetSaid : Prop := tasksMeetRow.holds Try.pinned (OpenSpec.ofChange tasksMeetSpec)

/-- ITS FALSE NEIGHBOUR: 'it returns false'. Refute it at one input. -/
def tasksMeetWrong : ChangeSpec := { name := "tasksMeet", fn := fun _ => fun
  | [d1, d2] => { results := [.lit (.bool false)], args := [d1, d2] }
  | _ => none }
def TasksMeetWrongFalsely : Prop := tasksMeetRow.holds Try.pinned (OpenSpec.ofChange tasksMeetWrong)

/-- 'plantwrightlaw.TasksOrder': WHATEVER THE INPUT: true; the input reads as it did. -/
def tasksOrderSpec : ChangeSpec := { name := "tasksOrder", fn := fun _ => fun
  | [d] => { results := [.lit (.bool true)], args := [d] }
  | _ => none }
def tasksOrderRow : OpenClaim := { program := "ythnpeekeoaiaoaa", sum := "c5f6eeb6eaa4a65745c5f2804bbc809cd43011524ed6e100dbf947ef6a07d52a", func := "plantwright/plantwrightlaw.TasksOrder", spec := "tasksOrder", unfollowed := true, recurses := true, apart := false }
def TasksOrderSaid : Prop := tasksOrderRow.holds Try.pinned (OpenSpec.ofChange tasksOrderSpec)

/-- ITS FALSE NEIGHBOUR: 'it returns false'. Refute it at one input. -/
def tasksOrderWrong : ChangeSpec := { name := "tasksOrder", fn := fun _ => fun
  | [d] => { results := [.lit (.bool false)], args := [d] }
  | _ => none }
def TasksOrderWrongFalsely : Prop := tasksOrderRow.holds Try.pinned (OpenSpec.ofChange tasksOrderWrong)

/-- 'plantwrightkeep.TasksBest': WHATEVER THE INPUT: true; the input reads as it did. -/
def tasksBestSpec : ChangeSpec := { name := "tasksBest", fn := fun _ => fun
  | [d] => { results := [.lit (.bool true)], args := [d] }
  | _ => none }
def tasksBestRow : OpenClaim := { program := "ythnpeekeoaiaoaa", sum := "c5f6eeb6eaa4a65745c5f2804bbc809cd43011524ed6e100dbf947ef6a07d52a", func := "plantwright/plantwrightkeep.TasksBest", spec := "tasksBest", unfollowed := true, recurses := true, apart := false }
def TasksBestSaid : Prop := tasksBestRow.holds Try.pinned (OpenSpec.ofChange tasksBestSpec)

/-- ITS FALSE NEIGHBOUR: 'it returns false'. Refute it at one input. -/
def tasksBestWrong : ChangeSpec := { name := "tasksBest", fn := fun _ => fun
  | [d] => { results := [.lit (.bool false)], args := [d] }
  | _ => none }
def TasksBestWrongFalsely : Prop := tasksBestRow.holds Try.pinned (OpenSpec.ofChange tasksBestWrong)

/- THE SECOND FORM. 'bulk': how many values and letters a reading holds, each counted each time it is reached (what is shared counts as often as it is met; a slice's spare places count too). A statement '..UptoSaid' is the law's where the arguments, and the package variables that the reading takes, are together of bulk at most 1048576: NARROWER than '..Said'. Prove '..Said' where nothing that the law and all that it calls make is longer than what came in: it says more and counts as full. Else prove '..UptoSaid'. A law counts once. -/
mutual
def uptoBulk {H : Type} : DataW H → Nat
  | .lit (.string bytes) => bytes.length + 1
  | .lit _ => 1
  | .nil => 1
  | .ptr d => uptoBulk d + 1
  | .slice elems spare => uptoBulkAll elems + uptoBulkAll spare + 1
  | .agg parts => uptoBulkAll parts + 1
  | .iface _ d => uptoBulk d + 1
  | .map entries => uptoBulkEntries entries + 1
  | .held _ => 1
def uptoBulkAll {H : Type} : List (DataW H) → Nat
  | [] => 0
  | d :: r => uptoBulk d + uptoBulkAll r
def uptoBulkEntries {H : Type} : List (Lit × DataW H) → Nat
  | [] => 0
  | x :: r => uptoBulkEntry x + uptoBulkEntries r
def uptoBulkEntry {H : Type} : Lit × DataW H → Nat
  | (.string bytes, d) => bytes.length + uptoBulk d + 1
  | (_, d) => uptoBulk d + 1
 end
def uptoSmall : (H : Type) → List (DataW H) → Bool := fun _ ds => decide (uptoBulkAll ds ≤ 1048576)
def OpenSpec.upto (s : _root_.Go.ChangeSpec) : _root_.Go.OpenSpec := { _root_.Go.OpenSpec.ofChange s with cond := some uptoSmall }

/-- 'plantwrightlaw.TasksRespond', WHERE WHAT IT READS IS OF BULK AT MOST 1048576: true; the input reads as it did. -/
def tasksRespondUptoRow : OpenClaim := { program := "ythnpeekeoaiaoaa", sum := "c5f6eeb6eaa4a65745c5f2804bbc809cd43011524ed6e100dbf947ef6a07d52a", func := "plantwright/plantwrightlaw.TasksRespond", spec := "tasksRespond", unfollowed := true, recurses := true, apart := false, narrowed := true }
def TasksRespondUptoSaid : Prop := tasksRespondUptoRow.holds Try.pinned (OpenSpec.upto tasksRespondSpec)

/-- 'plantwrightlaw.TasksPlay', WHERE WHAT IT READS IS OF BULK AT MOST 1048576: true; the input reads as it did. -/
def tasksPlayUptoRow : OpenClaim := { program := "ythnpeekeoaiaoaa", sum := "c5f6eeb6eaa4a65745c5f2804bbc809cd43011524ed6e100dbf947ef6a07d52a", func := "plantwright/plantwrightlaw.TasksPlay", spec := "tasksPlay", unfollowed := true, recurses := true, apart := false, narrowed := true }
def TasksPlayUptoSaid : Prop := tasksPlayUptoRow.holds Try.pinned (OpenSpec.upto tasksPlaySpec)

/-- 'plantwrightkeep.TasksMeet', WHERE WHAT IT READS IS OF BULK AT MOST 1048576: true; the input reads as it did. -/
def tasksMeetUptoRow : OpenClaim := { program := "ythnpeekeoaiaoaa", sum := "c5f6eeb6eaa4a65745c5f2804bbc809cd43011524ed6e100dbf947ef6a07d52a", func := "plantwright/plantwrightkeep.TasksMeet", spec := "tasksMeet", unfollowed := true, recurses := true, apart := false, narrowed := true }
def TasksMeetUptoSaid : Prop := tasksMeetUptoRow.holds Try.pinned (OpenSpec.upto tasksMeetSpec)

/-- 'plantwrightlaw.TasksOrder', WHERE WHAT IT READS IS OF BULK AT MOST 1048576: true; the input reads as it did. -/
def tasksOrderUptoRow : OpenClaim := { program := "ythnpeekeoaiaoaa", sum := "c5f6eeb6eaa4a65745c5f2804bbc809cd43011524ed6e100dbf947ef6a07d52a", func := "plantwright/plantwrightlaw.TasksOrder", spec := "tasksOrder", unfollowed := true, recurses := true, apart := false, narrowed := true }
def TasksOrderUptoSaid : Prop := tasksOrderUptoRow.holds Try.pinned (OpenSpec.upto tasksOrderSpec)

/-- 'plantwrightkeep.TasksBest', WHERE WHAT IT READS IS OF BULK AT MOST 1048576: true; the input reads as it did. -/
def tasksBestUptoRow : OpenClaim := { program := "ythnpeekeoaiaoaa", sum := "c5f6eeb6eaa4a65745c5f2804bbc809cd43011524ed6e100dbf947ef6a07d52a", func := "plantwright/plantwrightkeep.TasksBest", spec := "tasksBest", unfollowed := true, recurses := true, apart := false, narrowed := true }
def TasksBestUptoSaid : Prop := tasksBestUptoRow.holds Try.pinned (OpenSpec.upto tasksBestSpec)

end Rows
end Go.Proofs.Ythnpeekeoaiaoaa
