/-
  DERIVED. GIVEN WITH THE SEED: THE CARDS: each row of YtiogcbckhaknmaaDoorRows.lean that lists a variable, with what it lists TIED to the program's text (the seventh form; the later family's looks); each row that meets fmt, with fmt's text TOLD by the authors' own Lean function (tested against real Go, not proved from fmt's source: count such statements apart). THE CARD IS WHAT COUNTS. Prove the row's statement (the work); the ties are given (YtiogcbckhaknmaaDoorTie.lean); close each card by the builder's one call (the guide's Derived/Test/ToyasCard.lean, 'card_holds'). Laid BY PROGRAM, IN A SANDBOX (cutbox-door.mjs). By AI agents, Wed Nov 11 2026. No macro, syntax, notation, axiom, sorry.
-/
import Derived.Test.YtiogcbckhaknmaaDoorRows
import GoSem.ClaimSeven
namespace Go.Proofs.YtiogcbckhaknmaaDoor
namespace Rows

/-- THE TIED CARD OF 'plantwrightlaw.CodeVerify'. -/
def codeVerifyCard : Claim7 := { stood := { row := codeVerifyRow, standIns := [], harness := (true, "14b8776a75de66c5cede623e969147d90c2dc95849b5b2027a9db5609fcf960f"), looks := false }, kinds := [], alts := [], laidByText := true, laidKinds := [.data, .pinned], laidTests := true, laidLooks := .later }
def CodeVerifyCardSaid : Prop := Claim7.holds Tryd.pinned (.plain (OpenSpec.ofChange codeVerifySpec)) codeVerifyCard

/-- THE TIED CARD OF 'plantwrightlaw.TasksWeigh'. -/
def tasksWeighCard : Claim7 := { stood := { row := tasksWeighRow, standIns := [], harness := (true, "14b8776a75de66c5cede623e969147d90c2dc95849b5b2027a9db5609fcf960f"), looks := false }, kinds := [], alts := [], laidByText := true, laidKinds := [.data, .pinned], laidTests := true, laidLooks := .later }
def TasksWeighCardSaid : Prop := Claim7.holds Tryd.pinned (.plain (OpenSpec.ofChange tasksWeighSpec)) tasksWeighCard

/-- THE SECOND FORM's CARD OF 'plantwrightlaw.CodeVerify'. -/
def codeVerifyUptoCard : Claim7 := { stood := { row := codeVerifyUptoRow, standIns := [], harness := (true, "14b8776a75de66c5cede623e969147d90c2dc95849b5b2027a9db5609fcf960f"), looks := false }, kinds := [], alts := [], laidByText := true, laidKinds := [.data, .pinned], laidTests := true, laidLooks := .later }
def CodeVerifyUptoCardSaid : Prop := Claim7.holds Tryd.pinned (.plain (OpenSpec.upto codeVerifySpec)) codeVerifyUptoCard

/-- THE SECOND FORM's CARD OF 'plantwrightlaw.TasksWeigh'. -/
def tasksWeighUptoCard : Claim7 := { stood := { row := tasksWeighUptoRow, standIns := [], harness := (true, "14b8776a75de66c5cede623e969147d90c2dc95849b5b2027a9db5609fcf960f"), looks := false }, kinds := [], alts := [], laidByText := true, laidKinds := [.data, .pinned], laidTests := true, laidLooks := .later }
def TasksWeighUptoCardSaid : Prop := Claim7.holds Tryd.pinned (.plain (OpenSpec.upto tasksWeighSpec)) tasksWeighUptoCard
end Rows
end Go.Proofs.YtiogcbckhaknmaaDoor
