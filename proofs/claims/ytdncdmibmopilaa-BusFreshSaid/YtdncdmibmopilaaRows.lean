/-
  No cell of these rows narrows 'for every input' (looked for: loops, veiled, ifaces, maps, wideKeys, modest, calm, conditions, laid).
  DERIVED. THE GIVEN ROWS OF THIS SEAT. 7 by the template 'for every input the law returns true; each argument reads behind the call as it read before'; 0 by the template 'total and deterministic' (their statements: YtdncdmibmopilaaTotals.lean).
  GIVEN WITH THE SEED: the statements are not yours to turn. If you find one false, say at which input.
  Laid BY PROGRAM, IN A SANDBOX (cutbox-rows.mjs): the forced cells as the released guide's own fill.sh prints them over the translation 2e4f390c39ca59e7… (all of the seat's roots in one cut). By AI agents, Wed Nov 11 2026. No macro, syntax, notation, axiom, sorry.
-/
import Derived.Test.YtdncdmibmopilaaChecked
import GoSem.Claim
import GoSem.ClaimJoined
import GoSem.ClaimMapViews
import Derived.JoinedTies
import Derived.KernelRfl
namespace Go.Proofs.Ytdncdmibmopilaa
/- THE CELL 'sum', in the pinned program and in every row, IS THE sha256 OF THE DUMP (.gsa) THAT YtdncdmibmopilaaProg.lean LOADS. Nothing in Lean hashes anything: it is a label: what it is worth is what the hold of that sum in a sandbox is worth. -/
noncomputable def Try.pinned : Pinned := { name := "ytdncdmibmopilaa", sum := "2e4f390c39ca59e734b8d8718263a8c0f44e93271052b8c32e644b1e3ce9117d", checked := Try.checked }
namespace Rows
def none {H : Type} : Left H := { results := [], args := [] }

/-- 'plantwrightlaw.BusStart': WHATEVER THE INPUT: true; the input reads as it did. -/
def busStartSpec : ChangeSpec := { name := "busStart", fn := fun _ => fun
  | [d1, d2, d3] => { results := [.lit (.bool true)], args := [d1, d2, d3] }
  | _ => none }
def busStartRow : OpenClaim := { program := "ytdncdmibmopilaa", sum := "2e4f390c39ca59e734b8d8718263a8c0f44e93271052b8c32e644b1e3ce9117d", func := "plantwright/plantwrightlaw.BusStart", spec := "busStart", unfollowed := true, recurses := true, apart := false }
def BusStartSaid : Prop := busStartRow.holds Try.pinned (OpenSpec.ofChange busStartSpec)

/-- ITS FALSE NEIGHBOUR: 'it returns false'. Refute it at one input. -/
def busStartWrong : ChangeSpec := { name := "busStart", fn := fun _ => fun
  | [d1, d2, d3] => { results := [.lit (.bool false)], args := [d1, d2, d3] }
  | _ => none }
def BusStartWrongFalsely : Prop := busStartRow.holds Try.pinned (OpenSpec.ofChange busStartWrong)

/-- 'plantwrightlaw.BusOpen': WHATEVER THE INPUT: true; the input reads as it did. -/
def busOpenSpec : ChangeSpec := { name := "busOpen", fn := fun _ => fun
  | [d] => { results := [.lit (.bool true)], args := [d] }
  | _ => none }
def busOpenRow : OpenClaim := { program := "ytdncdmibmopilaa", sum := "2e4f390c39ca59e734b8d8718263a8c0f44e93271052b8c32e644b1e3ce9117d", func := "plantwright/plantwrightlaw.BusOpen", spec := "busOpen", unfollowed := true, recurses := true, apart := false }
def BusOpenSaid : Prop := busOpenRow.holds Try.pinned (OpenSpec.ofChange busOpenSpec)

/-- ITS FALSE NEIGHBOUR: 'it returns false'. Refute it at one input. -/
def busOpenWrong : ChangeSpec := { name := "busOpen", fn := fun _ => fun
  | [d] => { results := [.lit (.bool false)], args := [d] }
  | _ => none }
def BusOpenWrongFalsely : Prop := busOpenRow.holds Try.pinned (OpenSpec.ofChange busOpenWrong)

/-- 'plantwrightlaw.BusFrame': WHATEVER THE INPUT: true; the input reads as it did. -/
def busFrameSpec : ChangeSpec := { name := "busFrame", fn := fun _ => fun
  | [d1, d2, d3] => { results := [.lit (.bool true)], args := [d1, d2, d3] }
  | _ => none }
def busFrameRow : OpenClaim := { program := "ytdncdmibmopilaa", sum := "2e4f390c39ca59e734b8d8718263a8c0f44e93271052b8c32e644b1e3ce9117d", func := "plantwright/plantwrightlaw.BusFrame", spec := "busFrame", unfollowed := true, recurses := true, apart := false }
def BusFrameSaid : Prop := busFrameRow.holds Try.pinned (OpenSpec.ofChange busFrameSpec)

/-- ITS FALSE NEIGHBOUR: 'it returns false'. Refute it at one input. -/
def busFrameWrong : ChangeSpec := { name := "busFrame", fn := fun _ => fun
  | [d1, d2, d3] => { results := [.lit (.bool false)], args := [d1, d2, d3] }
  | _ => none }
def BusFrameWrongFalsely : Prop := busFrameRow.holds Try.pinned (OpenSpec.ofChange busFrameWrong)

/-- 'plantwrightlaw.BusTick': WHATEVER THE INPUT: true; the input reads as it did. -/
def busTickSpec : ChangeSpec := { name := "busTick", fn := fun _ => fun
  | [d] => { results := [.lit (.bool true)], args := [d] }
  | _ => none }
def busTickRow : OpenClaim := { program := "ytdncdmibmopilaa", sum := "2e4f390c39ca59e734b8d8718263a8c0f44e93271052b8c32e644b1e3ce9117d", func := "plantwright/plantwrightlaw.BusTick", spec := "busTick", unfollowed := true, recurses := true, apart := false }
def BusTickSaid : Prop := busTickRow.holds Try.pinned (OpenSpec.ofChange busTickSpec)

/-- ITS FALSE NEIGHBOUR: 'it returns false'. Refute it at one input. -/
def busTickWrong : ChangeSpec := { name := "busTick", fn := fun _ => fun
  | [d] => { results := [.lit (.bool false)], args := [d] }
  | _ => none }
def BusTickWrongFalsely : Prop := busTickRow.holds Try.pinned (OpenSpec.ofChange busTickWrong)

/-- 'plantwrightlaw.BusTake': WHATEVER THE INPUT: true; the input reads as it did. -/
def busTakeSpec : ChangeSpec := { name := "busTake", fn := fun _ => fun
  | [d1, d2] => { results := [.lit (.bool true)], args := [d1, d2] }
  | _ => none }
def busTakeRow : OpenClaim := { program := "ytdncdmibmopilaa", sum := "2e4f390c39ca59e734b8d8718263a8c0f44e93271052b8c32e644b1e3ce9117d", func := "plantwright/plantwrightlaw.BusTake", spec := "busTake", unfollowed := true, recurses := true, apart := false }
def BusTakeSaid : Prop := busTakeRow.holds Try.pinned (OpenSpec.ofChange busTakeSpec)

/-- ITS FALSE NEIGHBOUR: 'it returns false'. Refute it at one input. -/
def busTakeWrong : ChangeSpec := { name := "busTake", fn := fun _ => fun
  | [d1, d2] => { results := [.lit (.bool false)], args := [d1, d2] }
  | _ => none }
def BusTakeWrongFalsely : Prop := busTakeRow.holds Try.pinned (OpenSpec.ofChange busTakeWrong)

/-- 'plantwrightkeep.BusFresh': WHATEVER THE INPUT: true; the input reads as it did. -/
def busFreshSpec : ChangeSpec := { name := "busFresh", fn := fun _ => fun
  | [d1, d2] => { results := [.lit (.bool true)], args := [d1, d2] }
  | _ => none }
def busFreshRow : OpenClaim := { program := "ytdncdmibmopilaa", sum := "2e4f390c39ca59e734b8d8718263a8c0f44e93271052b8c32e644b1e3ce9117d", func := "plantwright/plantwrightkeep.BusFresh", spec := "busFresh", unfollowed := true, recurses := true, apart := false }
def BusFreshSaid : Prop := busFreshRow.holds Try.pinned (OpenSpec.ofChange busFreshSpec)

/-- ITS FALSE NEIGHBOUR: 'it returns false'. Refute it at one input. -/
def busFreshWrong : ChangeSpec := { name := "busFresh", fn := fun _ => fun
  | [d1, d2] => { results := [.lit (.bool false)], args := [d1, d2] }
  | _ => none }
def BusFreshWrongFalsely : Prop := busFreshRow.holds Try.pinned (OpenSpec.ofChange busFreshWrong)

/-- 'plantwrightkeep.BusSafe': WHATEVER THE INPUT: true; the input reads as it did. -/
def busSafeSpec : ChangeSpec := { name := "busSafe", fn := fun _ => fun
  | [d1, d2, d3, d4, d5] => { results := [.lit (.bool true)], args := [d1, d2, d3, d4, d5] }
  | _ => none }
def busSafeRow : OpenClaim := { program := "ytdncdmibmopilaa", sum := "2e4f390c39ca59e734b8d8718263a8c0f44e93271052b8c32e644b1e3ce9117d", func := "plantwright/plantwrightkeep.BusSafe", spec := "busSafe", unfollowed := true, recurses := true, apart := false }
def BusSafeSaid : Prop := busSafeRow.holds Try.pinned (OpenSpec.ofChange busSafeSpec)

/-- ITS FALSE NEIGHBOUR: 'it returns false'. Refute it at one input. -/
def busSafeWrong : ChangeSpec := { name := "busSafe", fn := fun _ => fun
  | [d1, d2, d3, d4, d5] => { results := [.lit (.bool false)], args := [d1, d2, d3, d4, d5] }
  | _ => none }
def BusSafeWrongFalsely : Prop := busSafeRow.holds Try.pinned (OpenSpec.ofChange busSafeWrong)

/- THE SECOND FORM. 'bulk': how many values and letters a reading holds, each counted each time it is reached (what is shared counts as often as it is met; a slice's spare places count too). A statement '..UptoSaid' is the law's where the arguments, and the package variables that the reading takes, are together of bulk at most 1048576: NARROWER than '..Said'. Prove '..Said' where nothing that the law and all that it calls make is longer than what came in: it says more and counts as full. Else prove '..UptoSaid'. A law counts once. -/
mutual
def uptoBulk {H : Type} : DataW H → Nat
  | .lit (.string bytes) => bytes.length + 1
  | .lit _ => 1
  | .nil => 1
  | .ptr d => uptoBulk d + 1
  | .slice elems spare => uptoBulkAll elems + uptoBulkAll spare + 1
  | .agg parts => uptoBulkAll parts + 1
  | .iface _ d => uptoBulk d + 1
  | .map entries => uptoBulkEntries entries + 1
  | .held _ => 1
def uptoBulkAll {H : Type} : List (DataW H) → Nat
  | [] => 0
  | d :: r => uptoBulk d + uptoBulkAll r
def uptoBulkEntries {H : Type} : List (Lit × DataW H) → Nat
  | [] => 0
  | x :: r => uptoBulkEntry x + uptoBulkEntries r
def uptoBulkEntry {H : Type} : Lit × DataW H → Nat
  | (.string bytes, d) => bytes.length + uptoBulk d + 1
  | (_, d) => uptoBulk d + 1
 end
def uptoSmall : (H : Type) → List (DataW H) → Bool := fun _ ds => decide (uptoBulkAll ds ≤ 1048576)
def OpenSpec.upto (s : _root_.Go.ChangeSpec) : _root_.Go.OpenSpec := { _root_.Go.OpenSpec.ofChange s with cond := some uptoSmall }

/-- 'plantwrightlaw.BusStart', WHERE WHAT IT READS IS OF BULK AT MOST 1048576: true; the input reads as it did. -/
def busStartUptoRow : OpenClaim := { program := "ytdncdmibmopilaa", sum := "2e4f390c39ca59e734b8d8718263a8c0f44e93271052b8c32e644b1e3ce9117d", func := "plantwright/plantwrightlaw.BusStart", spec := "busStart", unfollowed := true, recurses := true, apart := false, narrowed := true }
def BusStartUptoSaid : Prop := busStartUptoRow.holds Try.pinned (OpenSpec.upto busStartSpec)

/-- 'plantwrightlaw.BusOpen', WHERE WHAT IT READS IS OF BULK AT MOST 1048576: true; the input reads as it did. -/
def busOpenUptoRow : OpenClaim := { program := "ytdncdmibmopilaa", sum := "2e4f390c39ca59e734b8d8718263a8c0f44e93271052b8c32e644b1e3ce9117d", func := "plantwright/plantwrightlaw.BusOpen", spec := "busOpen", unfollowed := true, recurses := true, apart := false, narrowed := true }
def BusOpenUptoSaid : Prop := busOpenUptoRow.holds Try.pinned (OpenSpec.upto busOpenSpec)

/-- 'plantwrightlaw.BusFrame', WHERE WHAT IT READS IS OF BULK AT MOST 1048576: true; the input reads as it did. -/
def busFrameUptoRow : OpenClaim := { program := "ytdncdmibmopilaa", sum := "2e4f390c39ca59e734b8d8718263a8c0f44e93271052b8c32e644b1e3ce9117d", func := "plantwright/plantwrightlaw.BusFrame", spec := "busFrame", unfollowed := true, recurses := true, apart := false, narrowed := true }
def BusFrameUptoSaid : Prop := busFrameUptoRow.holds Try.pinned (OpenSpec.upto busFrameSpec)

/-- 'plantwrightlaw.BusTick', WHERE WHAT IT READS IS OF BULK AT MOST 1048576: true; the input reads as it did. -/
def busTickUptoRow : OpenClaim := { program := "ytdncdmibmopilaa", sum := "2e4f390c39ca59e734b8d8718263a8c0f44e93271052b8c32e644b1e3ce9117d", func := "plantwright/plantwrightlaw.BusTick", spec := "busTick", unfollowed := true, recurses := true, apart := false, narrowed := true }
def BusTickUptoSaid : Prop := busTickUptoRow.holds Try.pinned (OpenSpec.upto busTickSpec)

/-- 'plantwrightlaw.BusTake', WHERE WHAT IT READS IS OF BULK AT MOST 1048576: true; the input reads as it did. -/
def busTakeUptoRow : OpenClaim := { program := "ytdncdmibmopilaa", sum := "2e4f390c39ca59e734b8d8718263a8c0f44e93271052b8c32e644b1e3ce9117d", func := "plantwright/plantwrightlaw.BusTake", spec := "busTake", unfollowed := true, recurses := true, apart := false, narrowed := true }
def BusTakeUptoSaid : Prop := busTakeUptoRow.holds Try.pinned (OpenSpec.upto busTakeSpec)

/-- 'plantwrightkeep.BusFresh', WHERE WHAT IT READS IS OF BULK AT MOST 1048576: true; the input reads as it did. -/
def busFreshUptoRow : OpenClaim := { program := "ytdncdmibmopilaa", sum := "2e4f390c39ca59e734b8d8718263a8c0f44e93271052b8c32e644b1e3ce9117d", func := "plantwright/plantwrightkeep.BusFresh", spec := "busFresh", unfollowed := true, recurses := true, apart := false, narrowed := true }
def BusFreshUptoSaid : Prop := busFreshUptoRow.holds Try.pinned (OpenSpec.upto busFreshSpec)

/-- 'plantwrightkeep.BusSafe', WHERE WHAT IT READS IS OF BULK AT MOST 1048576: true; the input reads as it did. -/
def busSafeUptoRow : OpenClaim := { program := "ytdncdmibmopilaa", sum := "2e4f390c39ca59e734b8d8718263a8c0f44e93271052b8c32e644b1e3ce9117d", func := "plantwright/plantwrightkeep.BusSafe", spec := "busSafe", unfollowed := true, recurses := true, apart := false, narrowed := true }
def BusSafeUptoSaid : Prop := busSafeUptoRow.holds Try.pinned (OpenSpec.upto busSafeSpec)

end Rows
end Go.Proofs.Ytdncdmibmopilaa
