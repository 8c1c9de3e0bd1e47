/-
  PairOne at whatever reads. Conditions: the arguments read, within the form's own reach.
-/
import Derived.Test.YtlccpnloankloaaOne5
namespace Go.Proofs.Ytlccpnloankloaa.Pair
open Go.RowKit Go.Proofs.Ytlccpnloankloaa.W Go.Proofs.Ytlccpnloankloaa.Ints Go.Proofs.Ytlccpnloankloaa.Keep

theorem walk_One (H : Type) (enc : TypeId × Value → H) (w : World) (pt : Int) (hpt : (Lit.int .i64 pt).wf = true) (A : Option Addr) (n c : Nat) (ho : O.Op enc Try.prog w 44 [.slice A n c]) :
    Calls Try.prog 9 #[.int .i64 pt, .slice A n c] w fun e w' => e = .returned (.bool true) ∧ Below w.heap.size w w' := by
  obtain ⟨l, hr, hd⟩ := rbs_in ho
  have hp : I64 pt := by simpa [I64, Lit.wf, IntKind.min, IntKind.max, IntKind.signed, IntKind.bits] using hpt
  exact One_any A n c l pt w hr hd hp
end Go.Proofs.Ytlccpnloankloaa.Pair
