/-
  The walk of the law PairOne: the piece of the code that the arms of its round's switch are. Conditions: none.
-/
import Derived.Test.YtlccpnloankloaaOne4
namespace Go.Proofs.Ytlccpnloankloaa.Pair
open Go.RowKit

/-- the block of that number -/
def blockOf (k : Nat) : Code → Option Code
  | .block i c => if i = k then some (.block i c) else blockOf k c
  | .loop c => blockOf k c
  | .scope c => blockOf k c
  | .seq a b => match blockOf k a with
    | some c => some c
    | none => blockOf k b
  | .cond _ a b => match blockOf k a with
    | some c => some c
    | none => blockOf k b
  | _ => none
noncomputable def code4 : Code := ((Try.f9.body.bind (blockOf 4)).getD .skip)
end Go.Proofs.Ytlccpnloankloaa.Pair
