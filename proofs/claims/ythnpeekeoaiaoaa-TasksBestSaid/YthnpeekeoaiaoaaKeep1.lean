/-
  Contracts of the keep-statements' own helpers: equal, picked. Conditions: the slices read as lists; the number to pick from is greater than nought.
-/
import Derived.Test.YthnpeekeoaiaoaaInts
namespace Go.Proofs.Ythnpeekeoaiaoaa.Keep
open Go.RowKit Go.Proofs.Ythnpeekeoaiaoaa.W Go.Proofs.Ythnpeekeoaiaoaa.Ints

def pickN (n m : Int) : Int := (if n < 0 then -(n + 1) else n) % m
theorem pick_lt {n m : Int} (hm : 0 < m) : 0 ≤ pickN n m ∧ pickN n m < m := ⟨Int.emod_nonneg _ (by omega), Int.emod_lt_of_pos _ hm⟩
theorem picked_any (n m : Int) (w : World) (h1 : -9223372036854775808 ≤ n) (h2 : n ≤ 9223372036854775807) (h3 : 0 < m) (h4 : m ≤ 9223372036854775807) :
    Calls Try.prog 27 #[.int .i64 n, .int .i64 m] w fun e w' => e = .returned (.int .i64 (pickN n m)) ∧ w' = w := by
  by_cases h : n < 0
  · have hp : pickN n m = (-(n + 1)) % m := by simp [pickN, h]
    have hq : (-(n + 1)).tmod m = (-(n + 1)) % m := Int.tmod_eq_emod_of_nonneg (by omega)
    go_enter Try.func27, Try.ntmps27
    go_wp2
    go_ret
    exact ⟨ret_int (by first | rfl | rw [hp] | exact hq.trans hp.symm), rfl⟩
  · have hp : pickN n m = n % m := by simp [pickN, h]
    have hq : n.tmod m = n % m := Int.tmod_eq_emod_of_nonneg (by omega)
    go_enter Try.func27, Try.ntmps27
    go_wp2
    go_ret
    exact ⟨ret_int (by first | rfl | rw [hp] | exact hq.trans hp.symm), rfl⟩

end Go.Proofs.Ythnpeekeoaiaoaa.Keep
