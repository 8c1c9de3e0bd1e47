/-
  DERIVED. GIVEN WITH THE SEED: THE CARDS: each row of YtckjnlonijodcaaDoorRows.lean that lists a variable, with what it lists TIED to the program's text (the seventh form; the later family's looks); each row that meets fmt, with fmt's text TOLD by the authors' own Lean function (tested against real Go, not proved from fmt's source: count such statements apart). THE CARD IS WHAT COUNTS. Prove the row's statement (the work); the ties are given (YtckjnlonijodcaaDoorTie.lean); close each card by the builder's one call (the guide's Derived/Test/ToyasCard.lean, 'card_holds'). Laid BY PROGRAM, IN A SANDBOX (cutbox-door.mjs). By AI agents, Wed Nov 11 2026. No macro, syntax, notation, axiom, sorry.
-/
import Derived.Test.YtckjnlonijodcaaDoorRows
import GoSem.ClaimSeven
namespace Go.Proofs.YtckjnlonijodcaaDoor
namespace Rows

/-- THE TIED CARD OF 'plantwrightlaw.CellTexts'. -/
def cellTextsCard : Claim7 := { stood := { row := cellTextsRow, standIns := [], harness := (true, "258838133c9beab3ade0a01780a7ae097ed47f2a2ce82e44e026fc640cb046ef"), looks := false }, kinds := [], alts := [], laidByText := true, laidKinds := [.data, .data, .data, .data, .pinned, .pinned], laidTests := true, laidLooks := .later }
def CellTextsCardSaid : Prop := Claim7.holds Tryd.pinned (.plain (OpenSpec.ofChange cellTextsSpec)) cellTextsCard

/-- THE TIED CARD OF 'plantwrightkeep.CellBack'. -/
def cellBackCard : Claim7 := { stood := { row := cellBackRow, standIns := [], harness := (true, "258838133c9beab3ade0a01780a7ae097ed47f2a2ce82e44e026fc640cb046ef"), looks := false }, kinds := [], alts := [], laidByText := true, laidKinds := [.data, .data, .data, .data, .pinned, .pinned], laidTests := true, laidLooks := .later }
def CellBackCardSaid : Prop := Claim7.holds Tryd.pinned (.plain (OpenSpec.ofChange cellBackSpec)) cellBackCard

/-- THE SECOND FORM's CARD OF 'plantwrightlaw.CellTexts'. -/
def cellTextsUptoCard : Claim7 := { stood := { row := cellTextsUptoRow, standIns := [], harness := (true, "258838133c9beab3ade0a01780a7ae097ed47f2a2ce82e44e026fc640cb046ef"), looks := false }, kinds := [], alts := [], laidByText := true, laidKinds := [.data, .data, .data, .data, .pinned, .pinned], laidTests := true, laidLooks := .later }
def CellTextsUptoCardSaid : Prop := Claim7.holds Tryd.pinned (.plain (OpenSpec.upto cellTextsSpec)) cellTextsUptoCard

/-- THE SECOND FORM's CARD OF 'plantwrightkeep.CellBack'. -/
def cellBackUptoCard : Claim7 := { stood := { row := cellBackUptoRow, standIns := [], harness := (true, "258838133c9beab3ade0a01780a7ae097ed47f2a2ce82e44e026fc640cb046ef"), looks := false }, kinds := [], alts := [], laidByText := true, laidKinds := [.data, .data, .data, .data, .pinned, .pinned], laidTests := true, laidLooks := .later }
def CellBackUptoCardSaid : Prop := Claim7.holds Tryd.pinned (.plain (OpenSpec.upto cellBackSpec)) cellBackUptoCard
end Rows
end Go.Proofs.YtckjnlonijodcaaDoor
