/-
  DERIVED. GIVEN WITH THE SEED: THE CARDS: each row of YthgjjclmepfbpaaDoorRows.lean that lists a variable, with what it lists TIED to the program's text (the seventh form; the later family's looks); each row that meets fmt, with fmt's text TOLD by the authors' own Lean function (tested against real Go, not proved from fmt's source: count such statements apart). THE CARD IS WHAT COUNTS. Prove the row's statement (the work); the ties are given (YthgjjclmepfbpaaDoorTie.lean); close each card by the builder's one call (the guide's Derived/Test/ToyasCard.lean, 'card_holds'). Laid BY PROGRAM, IN A SANDBOX (cutbox-door.mjs). By AI agents, Wed Nov 11 2026. No macro, syntax, notation, axiom, sorry.
-/
import Derived.Test.YthgjjclmepfbpaaDoorRows
import GoSem.ClaimSeven
namespace Go.Proofs.YthgjjclmepfbpaaDoor
namespace Rows

/-- THE TIED CARD OF 'plantwrightlaw.BlockShapes'. -/
def blockShapesCard : Claim7 := { stood := { row := blockShapesRow, standIns := [], harness := (true, "648272a1208d41b955d2a6a3d0a041468c05a09cd24ac0c00ec774777e8246ca"), looks := false }, kinds := [], alts := [], laidByText := true, laidKinds := [.data, .pinned], laidTests := true, laidLooks := .later }
def BlockShapesCardSaid : Prop := Claim7.holds Tryd.pinned (.plain (OpenSpec.ofChange blockShapesSpec)) blockShapesCard

/-- THE TIED CARD OF 'plantwrightlaw.BlockSteps'. -/
def blockStepsCard : Claim7 := { stood := { row := blockStepsRow, standIns := [], harness := (true, "648272a1208d41b955d2a6a3d0a041468c05a09cd24ac0c00ec774777e8246ca"), looks := false }, kinds := [], alts := [], laidByText := true, laidKinds := [.data, .pinned], laidTests := true, laidLooks := .later }
def BlockStepsCardSaid : Prop := Claim7.holds Tryd.pinned (.plain (OpenSpec.ofChange blockStepsSpec)) blockStepsCard

/-- THE TIED CARD OF 'plantwrightkeep.BlockShift'. -/
def blockShiftCard : Claim7 := { stood := { row := blockShiftRow, standIns := [], harness := (true, "648272a1208d41b955d2a6a3d0a041468c05a09cd24ac0c00ec774777e8246ca"), looks := false }, kinds := [], alts := [], laidByText := true, laidKinds := [.data, .pinned], laidTests := true, laidLooks := .later }
def BlockShiftCardSaid : Prop := Claim7.holds Tryd.pinned (.plain (OpenSpec.ofChange blockShiftSpec)) blockShiftCard

/-- THE TIED CARD OF 'plantwrightkeep.BlockLate'. -/
def blockLateCard : Claim7 := { stood := { row := blockLateRow, standIns := [], harness := (true, "648272a1208d41b955d2a6a3d0a041468c05a09cd24ac0c00ec774777e8246ca"), looks := false }, kinds := [], alts := [], laidByText := true, laidKinds := [.data, .pinned], laidTests := true, laidLooks := .later }
def BlockLateCardSaid : Prop := Claim7.holds Tryd.pinned (.plain (OpenSpec.ofChange blockLateSpec)) blockLateCard

/-- THE TIED CARD OF 'plantwrightkeep.BlockCounts'. -/
def blockCountsCard : Claim7 := { stood := { row := blockCountsRow, standIns := [], harness := (true, "648272a1208d41b955d2a6a3d0a041468c05a09cd24ac0c00ec774777e8246ca"), looks := false }, kinds := [], alts := [], laidByText := true, laidKinds := [.data, .pinned], laidTests := true, laidLooks := .later }
def BlockCountsCardSaid : Prop := Claim7.holds Tryd.pinned (.plain (OpenSpec.ofChange blockCountsSpec)) blockCountsCard

/-- THE SECOND FORM's CARD OF 'plantwrightlaw.BlockShapes'. -/
def blockShapesUptoCard : Claim7 := { stood := { row := blockShapesUptoRow, standIns := [], harness := (true, "648272a1208d41b955d2a6a3d0a041468c05a09cd24ac0c00ec774777e8246ca"), looks := false }, kinds := [], alts := [], laidByText := true, laidKinds := [.data, .pinned], laidTests := true, laidLooks := .later }
def BlockShapesUptoCardSaid : Prop := Claim7.holds Tryd.pinned (.plain (OpenSpec.upto blockShapesSpec)) blockShapesUptoCard

/-- THE SECOND FORM's CARD OF 'plantwrightlaw.BlockSteps'. -/
def blockStepsUptoCard : Claim7 := { stood := { row := blockStepsUptoRow, standIns := [], harness := (true, "648272a1208d41b955d2a6a3d0a041468c05a09cd24ac0c00ec774777e8246ca"), looks := false }, kinds := [], alts := [], laidByText := true, laidKinds := [.data, .pinned], laidTests := true, laidLooks := .later }
def BlockStepsUptoCardSaid : Prop := Claim7.holds Tryd.pinned (.plain (OpenSpec.upto blockStepsSpec)) blockStepsUptoCard

/-- THE SECOND FORM's CARD OF 'plantwrightkeep.BlockShift'. -/
def blockShiftUptoCard : Claim7 := { stood := { row := blockShiftUptoRow, standIns := [], harness := (true, "648272a1208d41b955d2a6a3d0a041468c05a09cd24ac0c00ec774777e8246ca"), looks := false }, kinds := [], alts := [], laidByText := true, laidKinds := [.data, .pinned], laidTests := true, laidLooks := .later }
def BlockShiftUptoCardSaid : Prop := Claim7.holds Tryd.pinned (.plain (OpenSpec.upto blockShiftSpec)) blockShiftUptoCard

/-- THE SECOND FORM's CARD OF 'plantwrightkeep.BlockLate'. -/
def blockLateUptoCard : Claim7 := { stood := { row := blockLateUptoRow, standIns := [], harness := (true, "648272a1208d41b955d2a6a3d0a041468c05a09cd24ac0c00ec774777e8246ca"), looks := false }, kinds := [], alts := [], laidByText := true, laidKinds := [.data, .pinned], laidTests := true, laidLooks := .later }
def BlockLateUptoCardSaid : Prop := Claim7.holds Tryd.pinned (.plain (OpenSpec.upto blockLateSpec)) blockLateUptoCard

/-- THE SECOND FORM's CARD OF 'plantwrightkeep.BlockCounts'. -/
def blockCountsUptoCard : Claim7 := { stood := { row := blockCountsUptoRow, standIns := [], harness := (true, "648272a1208d41b955d2a6a3d0a041468c05a09cd24ac0c00ec774777e8246ca"), looks := false }, kinds := [], alts := [], laidByText := true, laidKinds := [.data, .pinned], laidTests := true, laidLooks := .later }
def BlockCountsUptoCardSaid : Prop := Claim7.holds Tryd.pinned (.plain (OpenSpec.upto blockCountsSpec)) blockCountsUptoCard
end Rows
end Go.Proofs.YthgjjclmepfbpaaDoor
