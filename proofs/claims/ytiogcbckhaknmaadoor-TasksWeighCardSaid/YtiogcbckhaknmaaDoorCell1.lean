/-
  Kinds of values: widths, what fits, wrapping. No conditions but that the numbers are ints.
-/
import Derived.Test.YtiogcbckhaknmaaDoorRows
import Derived.Test.YtiogcbckhaknmaaDoorW
import Derived.Test.YtiogcbckhaknmaaDoorNum
import Derived.Outline
namespace Go.Proofs.YtiogcbckhaknmaaDoor.Cell
open Go.RowKit Go.Proofs.YtiogcbckhaknmaaDoor.W Go.Proofs.YtiogcbckhaknmaaDoor.Num

def widthF (k : Int) : Int × Bool := if k = 1 then (1, false) else if k = 2 then (16, true) else if k = 3 then (32, true) else if k = 4 then (16, false) else if k = 5 then (32, false) else (0, false)
def wideF (k : Int) : Int × Int := if k = 1 then (2, 0) else if k = 2 then (65536, -32768) else if k = 3 then (4294967296, -2147483648) else if k = 4 then (65536, 0) else if k = 5 then (4294967296, 0) else (0, 0)
def wrapF (k n : Int) : Int := if k = 1 then n % 2 else if k = 2 then (n + 32768) % 65536 - 32768 else if k = 3 then (n + 2147483648) % 4294967296 - 2147483648 else if k = 4 then n % 65536 else if k = 5 then n % 4294967296 else 0

/-- a kind is one of five, or none -/
theorem kinds (k : Int) : k = 1 ∨ k = 2 ∨ k = 3 ∨ k = 4 ∨ k = 5 ∨ ((k == 1) = false ∧ (k == 2) = false ∧ (k == 3) = false ∧ (k == 4) = false ∧ (k == 5) = false) := by
  simp only [beq_eq_false_iff_ne, ne_eq]
  omega

theorem tmod_parts (n s : Int) (hs : 0 < s) : ∃ t, n.tmod s = t ∧ -s < t ∧ t < s ∧ ∃ q, n = s * q + t :=
  ⟨_, rfl, by have := Int.lt_tmod_of_pos n hs; omega, Int.tmod_lt_of_pos n hs, n.tdiv s, (Int.mul_tdiv_add_tmod n s).symm⟩

theorem width_any (k : Int) (w : World) : Calls Tryd.prog 46 #[.int .i64 k] w fun e w' => e = .returned (.tuple #[.int .i64 (widthF k).1, .bool (widthF k).2]) ∧ w = w' := by
  rcases kinds k with rfl | rfl | rfl | rfl | rfl | ⟨h1, h2, h3, h4, h5⟩
  all_goals go_enter Tryd.func46, Tryd.ntmps46
  all_goals go_wp2
  all_goals go_ret2
  all_goals refine ⟨?_, rfl⟩
  all_goals simp_all [widthF]
end Go.Proofs.YtiogcbckhaknmaaDoor.Cell
