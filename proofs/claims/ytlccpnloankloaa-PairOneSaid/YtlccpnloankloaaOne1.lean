/-
  PairOne: a side as the program holds it. Conditions: the sides fit.
-/
import Derived.Test.YtlccpnloankloaaOne0
import Derived.Test.YtlccpnloankloaaPairM
import Derived.Test.YtlccpnloankloaaPair8
import Derived.Test.YtlccpnloankloaaSml1
namespace Go.Proofs.Ytlccpnloankloaa.Pair
open Go.RowKit Go.Proofs.Ytlccpnloankloaa.W Go.Proofs.Ytlccpnloankloaa.Ints Go.Proofs.Ytlccpnloankloaa.Keep

/-- a side as the program holds it -/
def SS.sd (s : SS) (k : Nat) (p : Int) : SD (List Int) := ⟨k, s.act, s.term, s.cyc, sm s.cyc, s.sil, p⟩
theorem fit_ok {p : Int} {m k : Nat} {s : SS} (h : Fit p m s) (hp : p ≤ 1000) (hm : m ≤ 1000) (hk : k ≤ 1) : (s.sd k p).ok 2 = true := by
  obtain ⟨a, b, c, d, e⟩ := h
  simp only [SS.sd, SD.ok]
  rw [standB_iff]
  refine ⟨⟨by omega, by omega, by omega, by omega, by omega, by omega, by omega⟩, by omega, by omega, by omega, by omega, fun ha => ?_⟩
  have := e ha
  omega
end Go.Proofs.Ytlccpnloankloaa.Pair
