/-
  No cell of these rows narrows 'for every input' (looked for: loops, veiled, ifaces, maps, wideKeys, modest, calm, conditions, laid).
  DERIVED. THE GIVEN ROWS OF THIS SEAT. 8 by the template 'for every input the law returns true; each argument reads behind the call as it read before'; 0 by the template 'total and deterministic' (their statements: YtlccpnloankloaaTotals.lean).
  GIVEN WITH THE SEED: the statements are not yours to turn. If you find one false, say at which input.
  Laid BY PROGRAM, IN A SANDBOX (cutbox-rows.mjs): the forced cells as the released guide's own fill.sh prints them over the translation 3503094419023a78… (all of the seat's roots in one cut). By AI agents, Wed Nov 11 2026. No macro, syntax, notation, axiom, sorry.
-/
import Derived.Test.YtlccpnloankloaaChecked
import GoSem.Claim
import GoSem.ClaimJoined
import GoSem.ClaimMapViews
import Derived.JoinedTies
import Derived.KernelRfl
namespace Go.Proofs.Ytlccpnloankloaa
/- THE CELL 'sum', in the pinned program and in every row, IS THE sha256 OF THE DUMP (.gsa) THAT YtlccpnloankloaaProg.lean LOADS. Nothing in Lean hashes anything: it is a label: what it is worth is what the hold of that sum in a sandbox is worth. -/
noncomputable def Try.pinned : Pinned := { name := "ytlccpnloankloaa", sum := "3503094419023a78b13185e81ba9777cb796b717a4982ac097f646be87162b00", checked := Try.checked }
namespace Rows
def none {H : Type} : Left H := { results := [], args := [] }

/-- 'plantwrightlaw.Names': WHATEVER THE INPUT: true; the input reads as it did. -/
def namesSpec : ChangeSpec := { name := "names", fn := fun _ => fun
  | [] => { results := [.lit (.bool true)], args := [] }
  | _ => none }
def namesRow : OpenClaim := { program := "ytlccpnloankloaa", sum := "3503094419023a78b13185e81ba9777cb796b717a4982ac097f646be87162b00", func := "plantwright/plantwrightlaw.Names", spec := "names", apart := false }
def NamesSaid : Prop := namesRow.holds Try.pinned (OpenSpec.ofChange namesSpec)

/-- ITS FALSE NEIGHBOUR: 'it returns false'. Refute it at one input. -/
def namesWrong : ChangeSpec := { name := "names", fn := fun _ => fun
  | [] => { results := [.lit (.bool false)], args := [] }
  | _ => none }
def NamesWrongFalsely : Prop := namesRow.holds Try.pinned (OpenSpec.ofChange namesWrong)

/-- 'plantwrightlaw.PairStart': WHATEVER THE INPUT: true; the input reads as it did. -/
def pairStartSpec : ChangeSpec := { name := "pairStart", fn := fun _ => fun
  | [d1, d2, d3] => { results := [.lit (.bool true)], args := [d1, d2, d3] }
  | _ => none }
def pairStartRow : OpenClaim := { program := "ytlccpnloankloaa", sum := "3503094419023a78b13185e81ba9777cb796b717a4982ac097f646be87162b00", func := "plantwright/plantwrightlaw.PairStart", spec := "pairStart", unfollowed := true, recurses := true, apart := false }
def PairStartSaid : Prop := pairStartRow.holds Try.pinned (OpenSpec.ofChange pairStartSpec)

/-- ITS FALSE NEIGHBOUR: 'it returns false'. Refute it at one input. -/
def pairStartWrong : ChangeSpec := { name := "pairStart", fn := fun _ => fun
  | [d1, d2, d3] => { results := [.lit (.bool false)], args := [d1, d2, d3] }
  | _ => none }
def PairStartWrongFalsely : Prop := pairStartRow.holds Try.pinned (OpenSpec.ofChange pairStartWrong)

/-- 'plantwrightlaw.PairSend': WHATEVER THE INPUT: true; the input reads as it did. -/
def pairSendSpec : ChangeSpec := { name := "pairSend", fn := fun _ => fun
  | [d] => { results := [.lit (.bool true)], args := [d] }
  | _ => none }
def pairSendRow : OpenClaim := { program := "ytlccpnloankloaa", sum := "3503094419023a78b13185e81ba9777cb796b717a4982ac097f646be87162b00", func := "plantwright/plantwrightlaw.PairSend", spec := "pairSend", unfollowed := true, recurses := true, apart := false }
def PairSendSaid : Prop := pairSendRow.holds Try.pinned (OpenSpec.ofChange pairSendSpec)

/-- ITS FALSE NEIGHBOUR: 'it returns false'. Refute it at one input. -/
def pairSendWrong : ChangeSpec := { name := "pairSend", fn := fun _ => fun
  | [d] => { results := [.lit (.bool false)], args := [d] }
  | _ => none }
def PairSendWrongFalsely : Prop := pairSendRow.holds Try.pinned (OpenSpec.ofChange pairSendWrong)

/-- 'plantwrightlaw.PairDone': WHATEVER THE INPUT: true; the input reads as it did. -/
def pairDoneSpec : ChangeSpec := { name := "pairDone", fn := fun _ => fun
  | [d1, d2] => { results := [.lit (.bool true)], args := [d1, d2] }
  | _ => none }
def pairDoneRow : OpenClaim := { program := "ytlccpnloankloaa", sum := "3503094419023a78b13185e81ba9777cb796b717a4982ac097f646be87162b00", func := "plantwright/plantwrightlaw.PairDone", spec := "pairDone", unfollowed := true, recurses := true, apart := false }
def PairDoneSaid : Prop := pairDoneRow.holds Try.pinned (OpenSpec.ofChange pairDoneSpec)

/-- ITS FALSE NEIGHBOUR: 'it returns false'. Refute it at one input. -/
def pairDoneWrong : ChangeSpec := { name := "pairDone", fn := fun _ => fun
  | [d1, d2] => { results := [.lit (.bool false)], args := [d1, d2] }
  | _ => none }
def PairDoneWrongFalsely : Prop := pairDoneRow.holds Try.pinned (OpenSpec.ofChange pairDoneWrong)

/-- 'plantwrightlaw.PairWait': WHATEVER THE INPUT: true; the input reads as it did. -/
def pairWaitSpec : ChangeSpec := { name := "pairWait", fn := fun _ => fun
  | [d] => { results := [.lit (.bool true)], args := [d] }
  | _ => none }
def pairWaitRow : OpenClaim := { program := "ytlccpnloankloaa", sum := "3503094419023a78b13185e81ba9777cb796b717a4982ac097f646be87162b00", func := "plantwright/plantwrightlaw.PairWait", spec := "pairWait", unfollowed := true, recurses := true, apart := false }
def PairWaitSaid : Prop := pairWaitRow.holds Try.pinned (OpenSpec.ofChange pairWaitSpec)

/-- ITS FALSE NEIGHBOUR: 'it returns false'. Refute it at one input. -/
def pairWaitWrong : ChangeSpec := { name := "pairWait", fn := fun _ => fun
  | [d] => { results := [.lit (.bool false)], args := [d] }
  | _ => none }
def PairWaitWrongFalsely : Prop := pairWaitRow.holds Try.pinned (OpenSpec.ofChange pairWaitWrong)

/-- 'plantwrightlaw.PairHear': WHATEVER THE INPUT: true; the input reads as it did. -/
def pairHearSpec : ChangeSpec := { name := "pairHear", fn := fun _ => fun
  | [d1, d2] => { results := [.lit (.bool true)], args := [d1, d2] }
  | _ => none }
def pairHearRow : OpenClaim := { program := "ytlccpnloankloaa", sum := "3503094419023a78b13185e81ba9777cb796b717a4982ac097f646be87162b00", func := "plantwright/plantwrightlaw.PairHear", spec := "pairHear", unfollowed := true, recurses := true, apart := false }
def PairHearSaid : Prop := pairHearRow.holds Try.pinned (OpenSpec.ofChange pairHearSpec)

/-- ITS FALSE NEIGHBOUR: 'it returns false'. Refute it at one input. -/
def pairHearWrong : ChangeSpec := { name := "pairHear", fn := fun _ => fun
  | [d1, d2] => { results := [.lit (.bool false)], args := [d1, d2] }
  | _ => none }
def PairHearWrongFalsely : Prop := pairHearRow.holds Try.pinned (OpenSpec.ofChange pairHearWrong)

/-- 'plantwrightkeep.PairOne': WHATEVER THE INPUT: true; the input reads as it did. -/
def pairOneSpec : ChangeSpec := { name := "pairOne", fn := fun _ => fun
  | [d1, d2] => { results := [.lit (.bool true)], args := [d1, d2] }
  | _ => none }
def pairOneRow : OpenClaim := { program := "ytlccpnloankloaa", sum := "3503094419023a78b13185e81ba9777cb796b717a4982ac097f646be87162b00", func := "plantwright/plantwrightkeep.PairOne", spec := "pairOne", unfollowed := true, recurses := true, apart := false }
def PairOneSaid : Prop := pairOneRow.holds Try.pinned (OpenSpec.ofChange pairOneSpec)

/-- ITS FALSE NEIGHBOUR: 'it returns false'. Refute it at one input. -/
def pairOneWrong : ChangeSpec := { name := "pairOne", fn := fun _ => fun
  | [d1, d2] => { results := [.lit (.bool false)], args := [d1, d2] }
  | _ => none }
def PairOneWrongFalsely : Prop := pairOneRow.holds Try.pinned (OpenSpec.ofChange pairOneWrong)

/-- 'plantwrightkeep.PairSeamless': WHATEVER THE INPUT: true; the input reads as it did. -/
def pairSeamlessSpec : ChangeSpec := { name := "pairSeamless", fn := fun _ => fun
  | [d1, d2, d3] => { results := [.lit (.bool true)], args := [d1, d2, d3] }
  | _ => none }
def pairSeamlessRow : OpenClaim := { program := "ytlccpnloankloaa", sum := "3503094419023a78b13185e81ba9777cb796b717a4982ac097f646be87162b00", func := "plantwright/plantwrightkeep.PairSeamless", spec := "pairSeamless", unfollowed := true, recurses := true, apart := false }
def PairSeamlessSaid : Prop := pairSeamlessRow.holds Try.pinned (OpenSpec.ofChange pairSeamlessSpec)

/-- ITS FALSE NEIGHBOUR: 'it returns false'. Refute it at one input. -/
def pairSeamlessWrong : ChangeSpec := { name := "pairSeamless", fn := fun _ => fun
  | [d1, d2, d3] => { results := [.lit (.bool false)], args := [d1, d2, d3] }
  | _ => none }
def PairSeamlessWrongFalsely : Prop := pairSeamlessRow.holds Try.pinned (OpenSpec.ofChange pairSeamlessWrong)

/- THE SECOND FORM. 'bulk': how many values and letters a reading holds, each counted each time it is reached (what is shared counts as often as it is met; a slice's spare places count too). A statement '..UptoSaid' is the law's where the arguments, and the package variables that the reading takes, are together of bulk at most 1048576: NARROWER than '..Said'. Prove '..Said' where nothing that the law and all that it calls make is longer than what came in: it says more and counts as full. Else prove '..UptoSaid'. A law counts once. -/
mutual
def uptoBulk {H : Type} : DataW H → Nat
  | .lit (.string bytes) => bytes.length + 1
  | .lit _ => 1
  | .nil => 1
  | .ptr d => uptoBulk d + 1
  | .slice elems spare => uptoBulkAll elems + uptoBulkAll spare + 1
  | .agg parts => uptoBulkAll parts + 1
  | .iface _ d => uptoBulk d + 1
  | .map entries => uptoBulkEntries entries + 1
  | .held _ => 1
def uptoBulkAll {H : Type} : List (DataW H) → Nat
  | [] => 0
  | d :: r => uptoBulk d + uptoBulkAll r
def uptoBulkEntries {H : Type} : List (Lit × DataW H) → Nat
  | [] => 0
  | x :: r => uptoBulkEntry x + uptoBulkEntries r
def uptoBulkEntry {H : Type} : Lit × DataW H → Nat
  | (.string bytes, d) => bytes.length + uptoBulk d + 1
  | (_, d) => uptoBulk d + 1
 end
def uptoSmall : (H : Type) → List (DataW H) → Bool := fun _ ds => decide (uptoBulkAll ds ≤ 1048576)
def OpenSpec.upto (s : _root_.Go.ChangeSpec) : _root_.Go.OpenSpec := { _root_.Go.OpenSpec.ofChange s with cond := some uptoSmall }

/-- 'plantwrightlaw.Names', WHERE WHAT IT READS IS OF BULK AT MOST 1048576: true; the input reads as it did. -/
def namesUptoRow : OpenClaim := { program := "ytlccpnloankloaa", sum := "3503094419023a78b13185e81ba9777cb796b717a4982ac097f646be87162b00", func := "plantwright/plantwrightlaw.Names", spec := "names", apart := false, narrowed := true }
def NamesUptoSaid : Prop := namesUptoRow.holds Try.pinned (OpenSpec.upto namesSpec)

/-- 'plantwrightlaw.PairStart', WHERE WHAT IT READS IS OF BULK AT MOST 1048576: true; the input reads as it did. -/
def pairStartUptoRow : OpenClaim := { program := "ytlccpnloankloaa", sum := "3503094419023a78b13185e81ba9777cb796b717a4982ac097f646be87162b00", func := "plantwright/plantwrightlaw.PairStart", spec := "pairStart", unfollowed := true, recurses := true, apart := false, narrowed := true }
def PairStartUptoSaid : Prop := pairStartUptoRow.holds Try.pinned (OpenSpec.upto pairStartSpec)

/-- 'plantwrightlaw.PairSend', WHERE WHAT IT READS IS OF BULK AT MOST 1048576: true; the input reads as it did. -/
def pairSendUptoRow : OpenClaim := { program := "ytlccpnloankloaa", sum := "3503094419023a78b13185e81ba9777cb796b717a4982ac097f646be87162b00", func := "plantwright/plantwrightlaw.PairSend", spec := "pairSend", unfollowed := true, recurses := true, apart := false, narrowed := true }
def PairSendUptoSaid : Prop := pairSendUptoRow.holds Try.pinned (OpenSpec.upto pairSendSpec)

/-- 'plantwrightlaw.PairDone', WHERE WHAT IT READS IS OF BULK AT MOST 1048576: true; the input reads as it did. -/
def pairDoneUptoRow : OpenClaim := { program := "ytlccpnloankloaa", sum := "3503094419023a78b13185e81ba9777cb796b717a4982ac097f646be87162b00", func := "plantwright/plantwrightlaw.PairDone", spec := "pairDone", unfollowed := true, recurses := true, apart := false, narrowed := true }
def PairDoneUptoSaid : Prop := pairDoneUptoRow.holds Try.pinned (OpenSpec.upto pairDoneSpec)

/-- 'plantwrightlaw.PairWait', WHERE WHAT IT READS IS OF BULK AT MOST 1048576: true; the input reads as it did. -/
def pairWaitUptoRow : OpenClaim := { program := "ytlccpnloankloaa", sum := "3503094419023a78b13185e81ba9777cb796b717a4982ac097f646be87162b00", func := "plantwright/plantwrightlaw.PairWait", spec := "pairWait", unfollowed := true, recurses := true, apart := false, narrowed := true }
def PairWaitUptoSaid : Prop := pairWaitUptoRow.holds Try.pinned (OpenSpec.upto pairWaitSpec)

/-- 'plantwrightlaw.PairHear', WHERE WHAT IT READS IS OF BULK AT MOST 1048576: true; the input reads as it did. -/
def pairHearUptoRow : OpenClaim := { program := "ytlccpnloankloaa", sum := "3503094419023a78b13185e81ba9777cb796b717a4982ac097f646be87162b00", func := "plantwright/plantwrightlaw.PairHear", spec := "pairHear", unfollowed := true, recurses := true, apart := false, narrowed := true }
def PairHearUptoSaid : Prop := pairHearUptoRow.holds Try.pinned (OpenSpec.upto pairHearSpec)

/-- 'plantwrightkeep.PairOne', WHERE WHAT IT READS IS OF BULK AT MOST 1048576: true; the input reads as it did. -/
def pairOneUptoRow : OpenClaim := { program := "ytlccpnloankloaa", sum := "3503094419023a78b13185e81ba9777cb796b717a4982ac097f646be87162b00", func := "plantwright/plantwrightkeep.PairOne", spec := "pairOne", unfollowed := true, recurses := true, apart := false, narrowed := true }
def PairOneUptoSaid : Prop := pairOneUptoRow.holds Try.pinned (OpenSpec.upto pairOneSpec)

/-- 'plantwrightkeep.PairSeamless', WHERE WHAT IT READS IS OF BULK AT MOST 1048576: true; the input reads as it did. -/
def pairSeamlessUptoRow : OpenClaim := { program := "ytlccpnloankloaa", sum := "3503094419023a78b13185e81ba9777cb796b717a4982ac097f646be87162b00", func := "plantwright/plantwrightkeep.PairSeamless", spec := "pairSeamless", unfollowed := true, recurses := true, apart := false, narrowed := true }
def PairSeamlessUptoSaid : Prop := pairSeamlessUptoRow.holds Try.pinned (OpenSpec.upto pairSeamlessSpec)

end Rows
end Go.Proofs.Ytlccpnloankloaa
