/-
  make([]int, n): a row of noughts of the call's own. Conditions: n is within a length.
-/
import Derived.Test.YtiogcbckhaknmaaDoorInts
import Derived.Laws.MakeOwn
import Derived.Laws.OwnMore
namespace Go.Proofs.YtiogcbckhaknmaaDoor.Ints
open Go.RowKit Go.Proofs.YtiogcbckhaknmaaDoor.W

def noughts (n : Nat) : Array Value := madeCells #[.int .i64 0] n
theorem noughts_list (n : Nat) : (noughts n).toList = ints (List.replicate n 0) := by
  unfold noughts
  rw [toList_madeCells_one]
  simp
theorem make_any (n : Nat) (hn : n * 8 ≤ 140737488351232) (w : World) :
    (Instr.makeSlice 25 (.int .i64 (n : Int)) (.int .i64 (n : Int))).run Tryd.prog w = .ok (.slice (some ⟨w.heap.size, 0, none⟩) n n) (w.alloc (.cells (noughts n) 3)) := by
  obtain ⟨i0, hi0, hz0, hz1, hz2⟩ := info_parts int_info
  have h := run_make (P := Tryd.prog) w 25 3 i0 (.int .i64 0) Tryd.underlying25 hi0 hz0 .i64 .i64 (n : Int) (n : Int) (by omega) (Int.le_refl _) (by rw [hz2]; omega) (by omega)
  rw [hz1] at h
  simp only [Int.toNat_natCast, Nat.mul_one] at h
  rw [h]
  rfl
theorem make_own (n : Nat) (hn : n * 8 ≤ 140737488351232) (w : World) {base : Nat} (hb : base ≤ w.heap.size) :
    (w.alloc (.cells (noughts n) 3)).ownsRow base 3 1 (.slice (some ⟨w.heap.size, 0, none⟩) n n) n (ints (List.replicate n 0)) := by
  rw [← noughts_list]
  exact World.ownsRow_lit w _ n hb (by unfold maxLen; omega) (by simp [noughts, size_madeCells])
end Go.Proofs.YtiogcbckhaknmaaDoor.Ints
