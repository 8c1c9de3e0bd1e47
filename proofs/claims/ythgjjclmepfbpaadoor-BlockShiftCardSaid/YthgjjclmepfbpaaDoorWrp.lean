/-
  Kinds of values: wrapping. No conditions but that the numbers are ints.
-/
import Derived.Test.YthgjjclmepfbpaaDoorRows
import Derived.Test.YthgjjclmepfbpaaDoorW
import Derived.Test.YthgjjclmepfbpaaDoorNum
import Derived.Outline
namespace Go.Proofs.YthgjjclmepfbpaaDoor.Cell
open Go.RowKit Go.Proofs.YthgjjclmepfbpaaDoor.W Go.Proofs.YthgjjclmepfbpaaDoor.Num

def widthF (k : Int) : Int × Bool := if k = 1 then (1, false) else if k = 2 then (16, true) else if k = 3 then (32, true) else if k = 4 then (16, false) else if k = 5 then (32, false) else (0, false)
def wideF (k : Int) : Int × Int := if k = 1 then (2, 0) else if k = 2 then (65536, -32768) else if k = 3 then (4294967296, -2147483648) else if k = 4 then (65536, 0) else if k = 5 then (4294967296, 0) else (0, 0)
def wrapF (k n : Int) : Int := if k = 1 then n % 2 else if k = 2 then (n + 32768) % 65536 - 32768 else if k = 3 then (n + 2147483648) % 4294967296 - 2147483648 else if k = 4 then n % 65536 else if k = 5 then n % 4294967296 else 0

/-- a kind is one of five, or none -/
theorem kinds (k : Int) : k = 1 ∨ k = 2 ∨ k = 3 ∨ k = 4 ∨ k = 5 ∨ ((k == 1) = false ∧ (k == 2) = false ∧ (k == 3) = false ∧ (k == 4) = false ∧ (k == 5) = false) := by
  simp only [beq_eq_false_iff_ne, ne_eq]
  omega

theorem tmod_parts (n s : Int) (hs : 0 < s) : ∃ t, n.tmod s = t ∧ -s < t ∧ t < s ∧ ∃ q, n = s * q + t :=
  ⟨_, rfl, by have := Int.lt_tmod_of_pos n hs; omega, Int.tmod_lt_of_pos n hs, n.tdiv s, (Int.mul_tdiv_add_tmod n s).symm⟩

theorem Width_any (k : Int) (w : World) : Calls Tryd.prog 31 #[.int .i64 k] w fun e w' => e = .returned (.tuple #[.int .i64 (wideF k).1, .int .i64 (wideF k).2]) ∧ w = w' := by
  rcases kinds k with rfl | rfl | rfl | rfl | rfl | ⟨h1, h2, h3, h4, h5⟩
  all_goals go_enter Tryd.func31, Tryd.ntmps31
  all_goals go_wp2
  all_goals go_ret2
  all_goals refine ⟨?_, rfl⟩
  all_goals simp_all [wideF]
theorem Wrap_any (k n : Int) (w : World) (_hn : -9223372036854775808 ≤ n) (_hn' : n ≤ 9223372036854775807) : Calls Tryd.prog 28 #[.int .i64 k, .int .i64 n] w fun e w' => e = .returned (.int .i64 (wrapF k n)) ∧ w = w' := by
  rcases kinds k with rfl | rfl | rfl | rfl | rfl | ⟨h1, h2, h3, h4, h5⟩
  · go_enter Tryd.func28, Tryd.ntmps28
    go_wp2
    go_ret
    exact ⟨ret_int (by rw [and_one]; rfl), rfl⟩
  · go_enter Tryd.func28, Tryd.ntmps28
    go_wp2
    go_ret
    exact ⟨ret_int (by rw [wrap_i16, wrap64_in _ (by omega) (by omega)]; rfl), rfl⟩
  · go_enter Tryd.func28, Tryd.ntmps28
    go_wp2
    go_ret
    exact ⟨ret_int (by rw [wrap_i32, wrap64_in _ (by omega) (by omega)]; rfl), rfl⟩
  · go_enter Tryd.func28, Tryd.ntmps28
    go_wp2
    go_ret
    exact ⟨ret_int (by rw [wrap_u16, wrap64_in _ (by omega) (by omega)]; rfl), rfl⟩
  · go_enter Tryd.func28, Tryd.ntmps28
    go_wp2
    go_ret
    exact ⟨ret_int (by first | rfl | simp [wrapF]), rfl⟩
  · have hF : wrapF k n = 0 := by simp only [beq_eq_false_iff_ne, ne_eq] at h1 h2 h3 h4 h5; simp [wrapF, h1, h2, h3, h4, h5]
    rw [hF]
    clear hF
    go_enter Tryd.func28, Tryd.ntmps28
    go_wp2
    go_ret
    exact ⟨rfl, rfl⟩
theorem Width_1 (w : World) : Calls Tryd.prog 31 #[.int .i64 1] w fun e w' => e = .returned (.tuple #[.int .i64 2, .int .i64 (0)]) ∧ w = w' := by simpa [wideF] using Width_any 1 w
theorem WrapR_1 (n : Int) (w : World) : Calls Tryd.prog 23 #[.int .i64 1, .int .i64 n] w fun e w' => e = .returned (.int .i64 (wrapF 1 n)) ∧ w = w' := by
  obtain ⟨t, h2, h3, h4, q, hq⟩ := tmod_parts n 2 (by omega)
  have HQ := Lib.hid hq
  clear hq
  go_enter Tryd.func23, Tryd.ntmps23
  go_wp2_with (go_at_call 31; with_reducible refine (Width_1 _).mono ?_; rintro e w' ⟨rfl, rfl⟩)
  all_goals go_ret
  all_goals exact ⟨ret_int (by have hq := HQ.out; simp [wrapF]; omega), rfl⟩
theorem Width_2 (w : World) : Calls Tryd.prog 31 #[.int .i64 2] w fun e w' => e = .returned (.tuple #[.int .i64 65536, .int .i64 (-32768)]) ∧ w = w' := by simpa [wideF] using Width_any 2 w
theorem WrapR_2 (n : Int) (w : World) : Calls Tryd.prog 23 #[.int .i64 2, .int .i64 n] w fun e w' => e = .returned (.int .i64 (wrapF 2 n)) ∧ w = w' := by
  obtain ⟨t, h2, h3, h4, q, hq⟩ := tmod_parts n 65536 (by omega)
  have HQ := Lib.hid hq
  clear hq
  go_enter Tryd.func23, Tryd.ntmps23
  go_wp2_with (go_at_call 31; with_reducible refine (Width_2 _).mono ?_; rintro e w' ⟨rfl, rfl⟩)
  all_goals go_ret
  all_goals exact ⟨ret_int (by have hq := HQ.out; simp [wrapF]; omega), rfl⟩
theorem Width_3 (w : World) : Calls Tryd.prog 31 #[.int .i64 3] w fun e w' => e = .returned (.tuple #[.int .i64 4294967296, .int .i64 (-2147483648)]) ∧ w = w' := by simpa [wideF] using Width_any 3 w
theorem WrapR_3 (n : Int) (w : World) : Calls Tryd.prog 23 #[.int .i64 3, .int .i64 n] w fun e w' => e = .returned (.int .i64 (wrapF 3 n)) ∧ w = w' := by
  obtain ⟨t, h2, h3, h4, q, hq⟩ := tmod_parts n 4294967296 (by omega)
  have HQ := Lib.hid hq
  clear hq
  go_enter Tryd.func23, Tryd.ntmps23
  go_wp2_with (go_at_call 31; with_reducible refine (Width_3 _).mono ?_; rintro e w' ⟨rfl, rfl⟩)
  all_goals go_ret
  all_goals exact ⟨ret_int (by have hq := HQ.out; simp [wrapF]; omega), rfl⟩
theorem Width_4 (w : World) : Calls Tryd.prog 31 #[.int .i64 4] w fun e w' => e = .returned (.tuple #[.int .i64 65536, .int .i64 (0)]) ∧ w = w' := by simpa [wideF] using Width_any 4 w
theorem WrapR_4 (n : Int) (w : World) : Calls Tryd.prog 23 #[.int .i64 4, .int .i64 n] w fun e w' => e = .returned (.int .i64 (wrapF 4 n)) ∧ w = w' := by
  obtain ⟨t, h2, h3, h4, q, hq⟩ := tmod_parts n 65536 (by omega)
  have HQ := Lib.hid hq
  clear hq
  go_enter Tryd.func23, Tryd.ntmps23
  go_wp2_with (go_at_call 31; with_reducible refine (Width_4 _).mono ?_; rintro e w' ⟨rfl, rfl⟩)
  all_goals go_ret
  all_goals exact ⟨ret_int (by have hq := HQ.out; simp [wrapF]; omega), rfl⟩
theorem Width_5 (w : World) : Calls Tryd.prog 31 #[.int .i64 5] w fun e w' => e = .returned (.tuple #[.int .i64 4294967296, .int .i64 (0)]) ∧ w = w' := by simpa [wideF] using Width_any 5 w
theorem WrapR_5 (n : Int) (w : World) : Calls Tryd.prog 23 #[.int .i64 5, .int .i64 n] w fun e w' => e = .returned (.int .i64 (wrapF 5 n)) ∧ w = w' := by
  obtain ⟨t, h2, h3, h4, q, hq⟩ := tmod_parts n 4294967296 (by omega)
  have HQ := Lib.hid hq
  clear hq
  go_enter Tryd.func23, Tryd.ntmps23
  go_wp2_with (go_at_call 31; with_reducible refine (Width_5 _).mono ?_; rintro e w' ⟨rfl, rfl⟩)
  all_goals go_ret
  all_goals exact ⟨ret_int (by have hq := HQ.out; simp [wrapF]; omega), rfl⟩
theorem Width_0 (k : Int) (w : World) (h1 : (k == 1) = false) (h2 : (k == 2) = false) (h3 : (k == 3) = false) (h4 : (k == 4) = false) (h5 : (k == 5) = false) :
    Calls Tryd.prog 31 #[.int .i64 k] w fun e w' => e = .returned (.tuple #[.int .i64 0, .int .i64 0]) ∧ w = w' := by
  have h := Width_any k w
  simp only [beq_eq_false_iff_ne, ne_eq] at h1 h2 h3 h4 h5
  simpa [wideF, h1, h2, h3, h4, h5] using h
theorem WrapR_any (k n : Int) (w : World) : Calls Tryd.prog 23 #[.int .i64 k, .int .i64 n] w fun e w' => e = .returned (.int .i64 (wrapF k n)) ∧ w = w' := by
  rcases kinds k with rfl | rfl | rfl | rfl | rfl | ⟨h1, h2, h3, h4, h5⟩
  · exact WrapR_1 n w
  · exact WrapR_2 n w
  · exact WrapR_3 n w
  · exact WrapR_4 n w
  · exact WrapR_5 n w
  · have hF : wrapF k n = 0 := by simp only [beq_eq_false_iff_ne, ne_eq] at h1 h2 h3 h4 h5; simp [wrapF, h1, h2, h3, h4, h5]
    rw [hF]
    clear hF
    go_enter Tryd.func23, Tryd.ntmps23
    go_wp2_with (go_at_call 31; refine (Width_0 _ _ h1 h2 h3 h4 h5).mono ?_; rintro e w' ⟨rfl, rfl⟩)
    go_ret
    exact ⟨rfl, rfl⟩

end Go.Proofs.YthgjjclmepfbpaaDoor.Cell
