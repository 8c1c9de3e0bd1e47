/-
  NARROWER THAN 'FOR EVERY INPUT', by the rows' own cells (each row's printed sentence says how): BlockShapes: laid · BlockSteps: laid · BlockShift: laid · BlockLate: laid · BlockCounts: laid.
  DERIVED. THE GIVEN ROWS OF THIS SEAT. 5 by the template 'for every input the law returns true; each argument reads behind the call as it read before'; 0 by the template 'total and deterministic' (their statements: YthgjjclmepfbpaaDoorTotals.lean).
  GIVEN WITH THE SEED: the statements are not yours to turn. If you find one false, say at which input.
  Laid BY PROGRAM, IN A SANDBOX (cutbox-rows.mjs): the forced cells as the released guide's own fill.sh prints them over the translation 00301272edc9ecda… (all of the seat's roots in one cut). By AI agents, Wed Nov 11 2026. No macro, syntax, notation, axiom, sorry.
-/
import Derived.Test.YthgjjclmepfbpaaDoorChecked
import GoSem.PinnedTables
import GoSem.Claim
import GoSem.ClaimJoined
import GoSem.ClaimMapViews
import Derived.JoinedTies
import Derived.KernelRfl
namespace Go.Proofs.YthgjjclmepfbpaaDoor
/- THE CELL 'sum', in the pinned program and in every row, IS THE sha256 OF THE DUMP (.gsa) THAT YthgjjclmepfbpaaDoorProg.lean LOADS. Nothing in Lean hashes anything: it is a label: what it is worth is what the hold of that sum in a sandbox is worth. -/
noncomputable def Tryd.pinned : Pinned := { name := "ythgjjclmepfbpaadoor", sum := "00301272edc9ecda5c5bbd8b1c7257c555feacafb8da471d05e6971f3ae64812", checked := Tryd.checked }
namespace Rows
def none {H : Type} : Left H := { results := [], args := [] }

/- WHAT THE LISTED PACKAGE-LEVEL VARIABLES READ AS WHEN THE CALL BEGINS. Each datum BY PROGRAM (the guide's laid-datum.mjs) off the statement by which the dump's own 'gosem.cut.vars' lays the variable. In a bare row this is a premise. The card (YthgjjclmepfbpaaDoorCards.lean) ties it to the program's text. -/
def laid_unicode_utf8_acceptRanges {H : Type} : DataW H := .agg [.agg [.lit (.int .u8 128), .lit (.int .u8 191)], .agg [.lit (.int .u8 160), .lit (.int .u8 191)], .agg [.lit (.int .u8 128), .lit (.int .u8 159)], .agg [.lit (.int .u8 144), .lit (.int .u8 191)], .agg [.lit (.int .u8 128), .lit (.int .u8 143)], .agg [.lit (.int .u8 0), .lit (.int .u8 0)], .agg [.lit (.int .u8 0), .lit (.int .u8 0)], .agg [.lit (.int .u8 0), .lit (.int .u8 0)], .agg [.lit (.int .u8 0), .lit (.int .u8 0)], .agg [.lit (.int .u8 0), .lit (.int .u8 0)], .agg [.lit (.int .u8 0), .lit (.int .u8 0)], .agg [.lit (.int .u8 0), .lit (.int .u8 0)], .agg [.lit (.int .u8 0), .lit (.int .u8 0)], .agg [.lit (.int .u8 0), .lit (.int .u8 0)], .agg [.lit (.int .u8 0), .lit (.int .u8 0)], .agg [.lit (.int .u8 0), .lit (.int .u8 0)]]
/-- One of Go's own tables, pinned by name: the form's constant. -/
def laid_unicode_utf8_first : DataW Unit := Go.Pinned.utf8First

/-- 'plantwrightlaw.BlockShapes': WHATEVER THE INPUT: true; the input reads as it did. -/
def blockShapesSpec : ChangeSpec := { name := "blockShapes", fn := fun _ => fun
  | [d] => { results := [.lit (.bool true)], args := [d] }
  | _ => none }
def blockShapesRow : OpenClaim := { program := "ythgjjclmepfbpaadoor", sum := "00301272edc9ecda5c5bbd8b1c7257c555feacafb8da471d05e6971f3ae64812", func := "plantwright/plantwrightlaw.BlockShapes", spec := "blockShapes", inPlace := ["internal/bytealg.CountString", "internal/bytealg.IndexByteString", "internal/bytealg.IndexString"], named := ["unicode/utf8.first", "unicode/utf8.acceptRanges", "internal/bytealg.MaxLen"], apart := false, laid := [("unicode/utf8.acceptRanges", laid_unicode_utf8_acceptRanges), ("unicode/utf8.first", laid_unicode_utf8_first)] }
def BlockShapesSaid : Prop := blockShapesRow.holds Tryd.pinned (OpenSpec.ofChange blockShapesSpec)

/-- ITS FALSE NEIGHBOUR: 'it returns false'. Refute it at one input. -/
def blockShapesWrong : ChangeSpec := { name := "blockShapes", fn := fun _ => fun
  | [d] => { results := [.lit (.bool false)], args := [d] }
  | _ => none }
def BlockShapesWrongFalsely : Prop := blockShapesRow.holds Tryd.pinned (OpenSpec.ofChange blockShapesWrong)

/-- 'plantwrightlaw.BlockSteps': WHATEVER THE INPUT: true; the input reads as it did. -/
def blockStepsSpec : ChangeSpec := { name := "blockSteps", fn := fun _ => fun
  | [d1, d2, d3] => { results := [.lit (.bool true)], args := [d1, d2, d3] }
  | _ => none }
def blockStepsRow : OpenClaim := { program := "ythgjjclmepfbpaadoor", sum := "00301272edc9ecda5c5bbd8b1c7257c555feacafb8da471d05e6971f3ae64812", func := "plantwright/plantwrightlaw.BlockSteps", spec := "blockSteps", inPlace := ["internal/bytealg.CountString", "internal/bytealg.IndexByteString", "internal/bytealg.IndexString"], unfollowed := true, recurses := true, named := ["unicode/utf8.first", "unicode/utf8.acceptRanges", "internal/bytealg.MaxLen"], apart := false, laid := [("unicode/utf8.acceptRanges", laid_unicode_utf8_acceptRanges), ("unicode/utf8.first", laid_unicode_utf8_first)] }
def BlockStepsSaid : Prop := blockStepsRow.holds Tryd.pinned (OpenSpec.ofChange blockStepsSpec)

/-- ITS FALSE NEIGHBOUR: 'it returns false'. Refute it at one input. -/
def blockStepsWrong : ChangeSpec := { name := "blockSteps", fn := fun _ => fun
  | [d1, d2, d3] => { results := [.lit (.bool false)], args := [d1, d2, d3] }
  | _ => none }
def BlockStepsWrongFalsely : Prop := blockStepsRow.holds Tryd.pinned (OpenSpec.ofChange blockStepsWrong)

/-- 'plantwrightkeep.BlockShift': WHATEVER THE INPUT: true; the input reads as it did. -/
def blockShiftSpec : ChangeSpec := { name := "blockShift", fn := fun _ => fun
  | [d1, d2, d3] => { results := [.lit (.bool true)], args := [d1, d2, d3] }
  | _ => none }
def blockShiftRow : OpenClaim := { program := "ythgjjclmepfbpaadoor", sum := "00301272edc9ecda5c5bbd8b1c7257c555feacafb8da471d05e6971f3ae64812", func := "plantwright/plantwrightkeep.BlockShift", spec := "blockShift", inPlace := ["internal/bytealg.CountString", "internal/bytealg.IndexByteString", "internal/bytealg.IndexString"], unfollowed := true, recurses := true, named := ["unicode/utf8.first", "unicode/utf8.acceptRanges", "internal/bytealg.MaxLen"], apart := false, laid := [("unicode/utf8.acceptRanges", laid_unicode_utf8_acceptRanges), ("unicode/utf8.first", laid_unicode_utf8_first)] }
def BlockShiftSaid : Prop := blockShiftRow.holds Tryd.pinned (OpenSpec.ofChange blockShiftSpec)

/-- ITS FALSE NEIGHBOUR: 'it returns false'. Refute it at one input. -/
def blockShiftWrong : ChangeSpec := { name := "blockShift", fn := fun _ => fun
  | [d1, d2, d3] => { results := [.lit (.bool false)], args := [d1, d2, d3] }
  | _ => none }
def BlockShiftWrongFalsely : Prop := blockShiftRow.holds Tryd.pinned (OpenSpec.ofChange blockShiftWrong)

/-- 'plantwrightkeep.BlockLate': WHATEVER THE INPUT: true; the input reads as it did. -/
def blockLateSpec : ChangeSpec := { name := "blockLate", fn := fun _ => fun
  | [d1, d2, d3] => { results := [.lit (.bool true)], args := [d1, d2, d3] }
  | _ => none }
def blockLateRow : OpenClaim := { program := "ythgjjclmepfbpaadoor", sum := "00301272edc9ecda5c5bbd8b1c7257c555feacafb8da471d05e6971f3ae64812", func := "plantwright/plantwrightkeep.BlockLate", spec := "blockLate", inPlace := ["internal/bytealg.CountString", "internal/bytealg.IndexByteString", "internal/bytealg.IndexString"], unfollowed := true, recurses := true, named := ["unicode/utf8.first", "unicode/utf8.acceptRanges", "internal/bytealg.MaxLen"], apart := false, laid := [("unicode/utf8.acceptRanges", laid_unicode_utf8_acceptRanges), ("unicode/utf8.first", laid_unicode_utf8_first)] }
def BlockLateSaid : Prop := blockLateRow.holds Tryd.pinned (OpenSpec.ofChange blockLateSpec)

/-- ITS FALSE NEIGHBOUR: 'it returns false'. Refute it at one input. -/
def blockLateWrong : ChangeSpec := { name := "blockLate", fn := fun _ => fun
  | [d1, d2, d3] => { results := [.lit (.bool false)], args := [d1, d2, d3] }
  | _ => none }
def BlockLateWrongFalsely : Prop := blockLateRow.holds Tryd.pinned (OpenSpec.ofChange blockLateWrong)

/-- 'plantwrightkeep.BlockCounts': WHATEVER THE INPUT: true; the input reads as it did. -/
def blockCountsSpec : ChangeSpec := { name := "blockCounts", fn := fun _ => fun
  | [d1, d2] => { results := [.lit (.bool true)], args := [d1, d2] }
  | _ => none }
def blockCountsRow : OpenClaim := { program := "ythgjjclmepfbpaadoor", sum := "00301272edc9ecda5c5bbd8b1c7257c555feacafb8da471d05e6971f3ae64812", func := "plantwright/plantwrightkeep.BlockCounts", spec := "blockCounts", inPlace := ["internal/bytealg.CountString", "internal/bytealg.IndexByteString", "internal/bytealg.IndexString"], unfollowed := true, recurses := true, named := ["unicode/utf8.first", "unicode/utf8.acceptRanges", "internal/bytealg.MaxLen"], apart := false, laid := [("unicode/utf8.acceptRanges", laid_unicode_utf8_acceptRanges), ("unicode/utf8.first", laid_unicode_utf8_first)] }
def BlockCountsSaid : Prop := blockCountsRow.holds Tryd.pinned (OpenSpec.ofChange blockCountsSpec)

/-- ITS FALSE NEIGHBOUR: 'it returns false'. Refute it at one input. -/
def blockCountsWrong : ChangeSpec := { name := "blockCounts", fn := fun _ => fun
  | [d1, d2] => { results := [.lit (.bool false)], args := [d1, d2] }
  | _ => none }
def BlockCountsWrongFalsely : Prop := blockCountsRow.holds Tryd.pinned (OpenSpec.ofChange blockCountsWrong)

/- THE SECOND FORM. 'bulk': how many values and letters a reading holds, each counted each time it is reached (what is shared counts as often as it is met; a slice's spare places count too). A statement '..UptoSaid' is the law's where the arguments, and the package variables that the reading takes, are together of bulk at most 1048576: NARROWER than '..Said'. Prove '..Said' where nothing that the law and all that it calls make is longer than what came in: it says more and counts as full. Else prove '..UptoSaid'. A law counts once. -/
mutual
def uptoBulk {H : Type} : DataW H → Nat
  | .lit (.string bytes) => bytes.length + 1
  | .lit _ => 1
  | .nil => 1
  | .ptr d => uptoBulk d + 1
  | .slice elems spare => uptoBulkAll elems + uptoBulkAll spare + 1
  | .agg parts => uptoBulkAll parts + 1
  | .iface _ d => uptoBulk d + 1
  | .map entries => uptoBulkEntries entries + 1
  | .held _ => 1
def uptoBulkAll {H : Type} : List (DataW H) → Nat
  | [] => 0
  | d :: r => uptoBulk d + uptoBulkAll r
def uptoBulkEntries {H : Type} : List (Lit × DataW H) → Nat
  | [] => 0
  | x :: r => uptoBulkEntry x + uptoBulkEntries r
def uptoBulkEntry {H : Type} : Lit × DataW H → Nat
  | (.string bytes, d) => bytes.length + uptoBulk d + 1
  | (_, d) => uptoBulk d + 1
 end
def uptoSmall : (H : Type) → List (DataW H) → Bool := fun _ ds => decide (uptoBulkAll ds ≤ 1048576)
def OpenSpec.upto (s : _root_.Go.ChangeSpec) : _root_.Go.OpenSpec := { _root_.Go.OpenSpec.ofChange s with cond := some uptoSmall }

/-- 'plantwrightlaw.BlockShapes', WHERE WHAT IT READS IS OF BULK AT MOST 1048576: true; the input reads as it did. -/
def blockShapesUptoRow : OpenClaim := { program := "ythgjjclmepfbpaadoor", sum := "00301272edc9ecda5c5bbd8b1c7257c555feacafb8da471d05e6971f3ae64812", func := "plantwright/plantwrightlaw.BlockShapes", spec := "blockShapes", inPlace := ["internal/bytealg.CountString", "internal/bytealg.IndexByteString", "internal/bytealg.IndexString"], named := ["unicode/utf8.first", "unicode/utf8.acceptRanges", "internal/bytealg.MaxLen"], apart := false, laid := [("unicode/utf8.acceptRanges", laid_unicode_utf8_acceptRanges), ("unicode/utf8.first", laid_unicode_utf8_first)], narrowed := true }
def BlockShapesUptoSaid : Prop := blockShapesUptoRow.holds Tryd.pinned (OpenSpec.upto blockShapesSpec)

/-- 'plantwrightlaw.BlockSteps', WHERE WHAT IT READS IS OF BULK AT MOST 1048576: true; the input reads as it did. -/
def blockStepsUptoRow : OpenClaim := { program := "ythgjjclmepfbpaadoor", sum := "00301272edc9ecda5c5bbd8b1c7257c555feacafb8da471d05e6971f3ae64812", func := "plantwright/plantwrightlaw.BlockSteps", spec := "blockSteps", inPlace := ["internal/bytealg.CountString", "internal/bytealg.IndexByteString", "internal/bytealg.IndexString"], unfollowed := true, recurses := true, named := ["unicode/utf8.first", "unicode/utf8.acceptRanges", "internal/bytealg.MaxLen"], apart := false, laid := [("unicode/utf8.acceptRanges", laid_unicode_utf8_acceptRanges), ("unicode/utf8.first", laid_unicode_utf8_first)], narrowed := true }
def BlockStepsUptoSaid : Prop := blockStepsUptoRow.holds Tryd.pinned (OpenSpec.upto blockStepsSpec)

/-- 'plantwrightkeep.BlockShift', WHERE WHAT IT READS IS OF BULK AT MOST 1048576: true; the input reads as it did. -/
def blockShiftUptoRow : OpenClaim := { program := "ythgjjclmepfbpaadoor", sum := "00301272edc9ecda5c5bbd8b1c7257c555feacafb8da471d05e6971f3ae64812", func := "plantwright/plantwrightkeep.BlockShift", spec := "blockShift", inPlace := ["internal/bytealg.CountString", "internal/bytealg.IndexByteString", "internal/bytealg.IndexString"], unfollowed := true, recurses := true, named := ["unicode/utf8.first", "unicode/utf8.acceptRanges", "internal/bytealg.MaxLen"], apart := false, laid := [("unicode/utf8.acceptRanges", laid_unicode_utf8_acceptRanges), ("unicode/utf8.first", laid_unicode_utf8_first)], narrowed := true }
def BlockShiftUptoSaid : Prop := blockShiftUptoRow.holds Tryd.pinned (OpenSpec.upto blockShiftSpec)

/-- 'plantwrightkeep.BlockLate', WHERE WHAT IT READS IS OF BULK AT MOST 1048576: true; the input reads as it did. -/
def blockLateUptoRow : OpenClaim := { program := "ythgjjclmepfbpaadoor", sum := "00301272edc9ecda5c5bbd8b1c7257c555feacafb8da471d05e6971f3ae64812", func := "plantwright/plantwrightkeep.BlockLate", spec := "blockLate", inPlace := ["internal/bytealg.CountString", "internal/bytealg.IndexByteString", "internal/bytealg.IndexString"], unfollowed := true, recurses := true, named := ["unicode/utf8.first", "unicode/utf8.acceptRanges", "internal/bytealg.MaxLen"], apart := false, laid := [("unicode/utf8.acceptRanges", laid_unicode_utf8_acceptRanges), ("unicode/utf8.first", laid_unicode_utf8_first)], narrowed := true }
def BlockLateUptoSaid : Prop := blockLateUptoRow.holds Tryd.pinned (OpenSpec.upto blockLateSpec)

/-- 'plantwrightkeep.BlockCounts', WHERE WHAT IT READS IS OF BULK AT MOST 1048576: true; the input reads as it did. -/
def blockCountsUptoRow : OpenClaim := { program := "ythgjjclmepfbpaadoor", sum := "00301272edc9ecda5c5bbd8b1c7257c555feacafb8da471d05e6971f3ae64812", func := "plantwright/plantwrightkeep.BlockCounts", spec := "blockCounts", inPlace := ["internal/bytealg.CountString", "internal/bytealg.IndexByteString", "internal/bytealg.IndexString"], unfollowed := true, recurses := true, named := ["unicode/utf8.first", "unicode/utf8.acceptRanges", "internal/bytealg.MaxLen"], apart := false, laid := [("unicode/utf8.acceptRanges", laid_unicode_utf8_acceptRanges), ("unicode/utf8.first", laid_unicode_utf8_first)], narrowed := true }
def BlockCountsUptoSaid : Prop := blockCountsUptoRow.holds Tryd.pinned (OpenSpec.upto blockCountsSpec)

end Rows
end Go.Proofs.YthgjjclmepfbpaaDoor
