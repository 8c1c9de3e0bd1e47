/-
  The walk of the law BusFresh: the state between rounds; the piece of the code that the round's switch is. Conditions: none.
-/
import Derived.Test.YtdncdmibmopilaaFsh2
namespace Go.Proofs.Ytdncdmibmopilaa.Bus
open Go.RowKit Go.Proofs.Ytdncdmibmopilaa.W Go.Proofs.Ytdncdmibmopilaa.Ints Go.Proofs.Ytdncdmibmopilaa.Byt Go.Proofs.Ytdncdmibmopilaa.Num Go.Proofs.Ytdncdmibmopilaa.Keep

def FRel (w : World) (gL g2 : Nat) (V : Int) (k : Nat) (sv nv qv : Value) (wr : World) : Prop :=
  ∃ SA ns sc nw qt sq ag A c B d fs, sv = .slice SA ns sc ∧ nv = .int .i64 nw ∧ qv = .int .i64 qt ∧ (ns ≤ k ∧ -1 ≤ nw ∧ nw < ns ∧ 0 ≤ qt ∧ qt ≤ k ∧ ns ≤ sc) ∧ Hid (stands (1 + V) nw sq ag qt) ∧
    Hid (Blk wr gL 24 (linkC 5 (1 + V) (.slice A 2 c) (.slice B 2 d) sq ag (decide (0 ≤ nw)))) ∧ Hid (Rn wr gL (Value.slice SA ns sc).ownBlock A 2 (ints [0, 65535])) ∧ Hid (Rn wr gL (Value.slice SA ns sc).ownBlock B 2 (ints (wd nw))) ∧
    Hid (Rn wr gL (Value.slice SA ns sc).ownBlock (some ⟨g2, 0, none⟩) 2 (ints [0, 65535])) ∧ Hid (wr.ownsRow (gL + 1) 31 1 (.slice SA ns sc) ns (sentV fs)) ∧ Hid (fs.length = ns) ∧ Hid (Sent wr gL (Value.slice SA ns sc).ownBlock fs) ∧ Hid (Below w.heap.size w wr) ∧ gL < wr.heap.size

/-- the block of that number -/
def blockOf (k : Nat) : Code → Option Code
  | .block i c => if i = k then some (.block i c) else blockOf k c
  | .loop c => blockOf k c
  | .scope c => blockOf k c
  | .seq a b => match blockOf k a with
    | some c => some c
    | none => blockOf k b
  | .cond _ a b => match blockOf k a with
    | some c => some c
    | none => blockOf k b
  | _ => none
noncomputable def code2 : Code := ((Try.f8.body.bind (blockOf 2)).getD .skip)
end Go.Proofs.Ytdncdmibmopilaa.Bus
