/-
  Kinds of values: widths, what fits, wrapping. No conditions but that the numbers are ints.
-/
import Derived.Test.YtckjnlonijodcaaDoorRows
import Derived.Test.YtckjnlonijodcaaDoorW
import Derived.Test.YtckjnlonijodcaaDoorNum
import Derived.Outline
namespace Go.Proofs.YtckjnlonijodcaaDoor.Cell
open Go.RowKit Go.Proofs.YtckjnlonijodcaaDoor.W Go.Proofs.YtckjnlonijodcaaDoor.Num

def widthF (k : Int) : Int × Bool := if k = 1 then (1, false) else if k = 2 then (16, true) else if k = 3 then (32, true) else if k = 4 then (16, false) else if k = 5 then (32, false) else (0, false)
def wideF (k : Int) : Int × Int := if k = 1 then (2, 0) else if k = 2 then (65536, -32768) else if k = 3 then (4294967296, -2147483648) else if k = 4 then (65536, 0) else if k = 5 then (4294967296, 0) else (0, 0)
def wrapF (k n : Int) : Int := if k = 1 then n % 2 else if k = 2 then (n + 32768) % 65536 - 32768 else if k = 3 then (n + 2147483648) % 4294967296 - 2147483648 else if k = 4 then n % 65536 else if k = 5 then n % 4294967296 else 0

/-- a kind is one of five, or none -/
theorem kinds (k : Int) : k = 1 ∨ k = 2 ∨ k = 3 ∨ k = 4 ∨ k = 5 ∨ ((k == 1) = false ∧ (k == 2) = false ∧ (k == 3) = false ∧ (k == 4) = false ∧ (k == 5) = false) := by
  simp only [beq_eq_false_iff_ne, ne_eq]
  omega

theorem tmod_parts (n s : Int) (hs : 0 < s) : ∃ t, n.tmod s = t ∧ -s < t ∧ t < s ∧ ∃ q, n = s * q + t :=
  ⟨_, rfl, by have := Int.lt_tmod_of_pos n hs; omega, Int.tmod_lt_of_pos n hs, n.tdiv s, (Int.mul_tdiv_add_tmod n s).symm⟩

theorem width_any (k : Int) (w : World) : Calls Tryd.prog 13 #[.int .i64 k] w fun e w' => e = .returned (.tuple #[.int .i64 (widthF k).1, .bool (widthF k).2]) ∧ w = w' := by
  rcases kinds k with rfl | rfl | rfl | rfl | rfl | ⟨h1, h2, h3, h4, h5⟩
  all_goals go_enter Tryd.func13, Tryd.ntmps13
  all_goals go_wp2
  all_goals go_ret2
  all_goals refine ⟨?_, rfl⟩
  all_goals simp_all [widthF]
theorem Width_any (k : Int) (w : World) : Calls Tryd.prog 20 #[.int .i64 k] w fun e w' => e = .returned (.tuple #[.int .i64 (wideF k).1, .int .i64 (wideF k).2]) ∧ w = w' := by
  rcases kinds k with rfl | rfl | rfl | rfl | rfl | ⟨h1, h2, h3, h4, h5⟩
  all_goals go_enter Tryd.func20, Tryd.ntmps20
  all_goals go_wp2
  all_goals go_ret2
  all_goals refine ⟨?_, rfl⟩
  all_goals simp_all [wideF]
theorem Wrap_any (k n : Int) (w : World) (_hn : -9223372036854775808 ≤ n) (_hn' : n ≤ 9223372036854775807) : Calls Tryd.prog 12 #[.int .i64 k, .int .i64 n] w fun e w' => e = .returned (.int .i64 (wrapF k n)) ∧ w = w' := by
  rcases kinds k with rfl | rfl | rfl | rfl | rfl | ⟨h1, h2, h3, h4, h5⟩
  · go_enter Tryd.func12, Tryd.ntmps12
    go_wp2
    go_ret
    exact ⟨ret_int (by rw [and_one]; rfl), rfl⟩
  · go_enter Tryd.func12, Tryd.ntmps12
    go_wp2
    go_ret
    exact ⟨ret_int (by rw [wrap_i16, wrap64_in _ (by omega) (by omega)]; rfl), rfl⟩
  · go_enter Tryd.func12, Tryd.ntmps12
    go_wp2
    go_ret
    exact ⟨ret_int (by rw [wrap_i32, wrap64_in _ (by omega) (by omega)]; rfl), rfl⟩
  · go_enter Tryd.func12, Tryd.ntmps12
    go_wp2
    go_ret
    exact ⟨ret_int (by rw [wrap_u16, wrap64_in _ (by omega) (by omega)]; rfl), rfl⟩
  · go_enter Tryd.func12, Tryd.ntmps12
    go_wp2
    go_ret
    exact ⟨ret_int (by first | rfl | simp [wrapF]), rfl⟩
  · have hF : wrapF k n = 0 := by simp only [beq_eq_false_iff_ne, ne_eq] at h1 h2 h3 h4 h5; simp [wrapF, h1, h2, h3, h4, h5]
    rw [hF]
    clear hF
    go_enter Tryd.func12, Tryd.ntmps12
    go_wp2
    go_ret
    exact ⟨rfl, rfl⟩
theorem Width_1 (w : World) : Calls Tryd.prog 20 #[.int .i64 1] w fun e w' => e = .returned (.tuple #[.int .i64 2, .int .i64 (0)]) ∧ w = w' := by simpa [wideF] using Width_any 1 w
theorem Width_2 (w : World) : Calls Tryd.prog 20 #[.int .i64 2] w fun e w' => e = .returned (.tuple #[.int .i64 65536, .int .i64 (-32768)]) ∧ w = w' := by simpa [wideF] using Width_any 2 w
theorem Width_3 (w : World) : Calls Tryd.prog 20 #[.int .i64 3] w fun e w' => e = .returned (.tuple #[.int .i64 4294967296, .int .i64 (-2147483648)]) ∧ w = w' := by simpa [wideF] using Width_any 3 w
theorem Width_4 (w : World) : Calls Tryd.prog 20 #[.int .i64 4] w fun e w' => e = .returned (.tuple #[.int .i64 65536, .int .i64 (0)]) ∧ w = w' := by simpa [wideF] using Width_any 4 w
theorem Width_5 (w : World) : Calls Tryd.prog 20 #[.int .i64 5] w fun e w' => e = .returned (.tuple #[.int .i64 4294967296, .int .i64 (0)]) ∧ w = w' := by simpa [wideF] using Width_any 5 w
theorem Width_0 (k : Int) (w : World) (h1 : (k == 1) = false) (h2 : (k == 2) = false) (h3 : (k == 3) = false) (h4 : (k == 4) = false) (h5 : (k == 5) = false) :
    Calls Tryd.prog 20 #[.int .i64 k] w fun e w' => e = .returned (.tuple #[.int .i64 0, .int .i64 0]) ∧ w = w' := by
  have h := Width_any k w
  simp only [beq_eq_false_iff_ne, ne_eq] at h1 h2 h3 h4 h5
  simpa [wideF, h1, h2, h3, h4, h5] using h
def fitsF (k n : Int) : Bool := if k = 1 then decide (0 ≤ n ∧ n ≤ 1) else if k = 2 then decide (-32768 ≤ n ∧ n ≤ 32767) else if k = 3 then decide (-2147483648 ≤ n ∧ n ≤ 2147483647) else if k = 4 then decide (0 ≤ n ∧ n ≤ 65535) else if k = 5 then decide (0 ≤ n ∧ n ≤ 4294967295) else false
theorem widthC_1 (w : World) : Calls Tryd.prog 13 #[.int .i64 1] w fun e w' => e = .returned (.tuple #[.int .i64 1, .bool false]) ∧ w = w' := by simpa [widthF] using width_any 1 w
theorem fits_1 (n : Int) : (wrapF 1 n == n) = fitsF 1 n := by
  rw [Bool.eq_iff_iff]
  simp [wrapF, fitsF]
  omega
theorem widthC_2 (w : World) : Calls Tryd.prog 13 #[.int .i64 2] w fun e w' => e = .returned (.tuple #[.int .i64 16, .bool true]) ∧ w = w' := by simpa [widthF] using width_any 2 w
theorem fits_2 (n : Int) : (wrapF 2 n == n) = fitsF 2 n := by
  rw [Bool.eq_iff_iff]
  simp [wrapF, fitsF]
  omega
theorem widthC_3 (w : World) : Calls Tryd.prog 13 #[.int .i64 3] w fun e w' => e = .returned (.tuple #[.int .i64 32, .bool true]) ∧ w = w' := by simpa [widthF] using width_any 3 w
theorem fits_3 (n : Int) : (wrapF 3 n == n) = fitsF 3 n := by
  rw [Bool.eq_iff_iff]
  simp [wrapF, fitsF]
  omega
theorem widthC_4 (w : World) : Calls Tryd.prog 13 #[.int .i64 4] w fun e w' => e = .returned (.tuple #[.int .i64 16, .bool false]) ∧ w = w' := by simpa [widthF] using width_any 4 w
theorem fits_4 (n : Int) : (wrapF 4 n == n) = fitsF 4 n := by
  rw [Bool.eq_iff_iff]
  simp [wrapF, fitsF]
  omega
theorem widthC_5 (w : World) : Calls Tryd.prog 13 #[.int .i64 5] w fun e w' => e = .returned (.tuple #[.int .i64 32, .bool false]) ∧ w = w' := by simpa [widthF] using width_any 5 w
theorem fits_5 (n : Int) : (wrapF 5 n == n) = fitsF 5 n := by
  rw [Bool.eq_iff_iff]
  simp [wrapF, fitsF]
  omega
theorem widthC_0 (k : Int) (w : World) (h1 : (k == 1) = false) (h2 : (k == 2) = false) (h3 : (k == 3) = false) (h4 : (k == 4) = false) (h5 : (k == 5) = false) :
    Calls Tryd.prog 13 #[.int .i64 k] w fun e w' => e = .returned (.tuple #[.int .i64 0, .bool false]) ∧ w = w' := by
  have h := width_any k w
  simp only [beq_eq_false_iff_ne, ne_eq] at h1 h2 h3 h4 h5
  simpa [widthF, h1, h2, h3, h4, h5] using h
theorem Fits_any (k n : Int) (w : World) (hn : -9223372036854775808 ≤ n) (hn' : n ≤ 9223372036854775807) : Calls Tryd.prog 9 #[.int .i64 k, .int .i64 n] w fun e w' => e = .returned (.bool (fitsF k n)) ∧ w = w' := by
  rcases kinds k with rfl | rfl | rfl | rfl | rfl | ⟨h1, h2, h3, h4, h5⟩
  · have HF := Lib.hid (fits_1 n)
    go_enter Tryd.func9, Tryd.ntmps9
    go_wp2_with (first | (go_at_call 13; refine (widthC_1 _).mono ?_; rintro e w' ⟨rfl, rfl⟩) | (go_at_call 12; refine (Wrap_any _ _ _ hn hn').mono ?_; rintro e w' ⟨rfl, rfl⟩))
    go_ret
    exact ⟨ret_bool HF.out, rfl⟩
  · have HF := Lib.hid (fits_2 n)
    go_enter Tryd.func9, Tryd.ntmps9
    go_wp2_with (first | (go_at_call 13; refine (widthC_2 _).mono ?_; rintro e w' ⟨rfl, rfl⟩) | (go_at_call 12; refine (Wrap_any _ _ _ hn hn').mono ?_; rintro e w' ⟨rfl, rfl⟩))
    go_ret
    exact ⟨ret_bool HF.out, rfl⟩
  · have HF := Lib.hid (fits_3 n)
    go_enter Tryd.func9, Tryd.ntmps9
    go_wp2_with (first | (go_at_call 13; refine (widthC_3 _).mono ?_; rintro e w' ⟨rfl, rfl⟩) | (go_at_call 12; refine (Wrap_any _ _ _ hn hn').mono ?_; rintro e w' ⟨rfl, rfl⟩))
    go_ret
    exact ⟨ret_bool HF.out, rfl⟩
  · have HF := Lib.hid (fits_4 n)
    go_enter Tryd.func9, Tryd.ntmps9
    go_wp2_with (first | (go_at_call 13; refine (widthC_4 _).mono ?_; rintro e w' ⟨rfl, rfl⟩) | (go_at_call 12; refine (Wrap_any _ _ _ hn hn').mono ?_; rintro e w' ⟨rfl, rfl⟩))
    go_ret
    exact ⟨ret_bool HF.out, rfl⟩
  · have HF := Lib.hid (fits_5 n)
    go_enter Tryd.func9, Tryd.ntmps9
    go_wp2_with (first | (go_at_call 13; refine (widthC_5 _).mono ?_; rintro e w' ⟨rfl, rfl⟩) | (go_at_call 12; refine (Wrap_any _ _ _ hn hn').mono ?_; rintro e w' ⟨rfl, rfl⟩))
    go_ret
    exact ⟨ret_bool HF.out, rfl⟩
  · have hF : fitsF k n = false := by simp only [beq_eq_false_iff_ne, ne_eq] at h1 h2 h3 h4 h5; simp [fitsF, h1, h2, h3, h4, h5]
    rw [hF]
    clear hF
    go_enter Tryd.func9, Tryd.ntmps9
    go_wp2_with (go_at_call 13; refine (widthC_0 _ _ h1 h2 h3 h4 h5).mono ?_; rintro e w' ⟨rfl, rfl⟩)
    go_ret
    exact ⟨rfl, rfl⟩
theorem FitsR_any (k n : Int) (w : World) : Calls Tryd.prog 26 #[.int .i64 k, .int .i64 n] w fun e w' => e = .returned (.bool (fitsF k n)) ∧ w = w' := by
  rcases kinds k with rfl | rfl | rfl | rfl | rfl | ⟨h1, h2, h3, h4, h5⟩
  · go_enter Tryd.func26, Tryd.ntmps26
    go_wp2_with (go_at_call 20; refine (Width_1 _).mono ?_; rintro e w' ⟨rfl, rfl⟩)
    all_goals go_ret
    all_goals exact ⟨ret_bool (by rw [Bool.eq_iff_iff]; simp [fitsF]; try omega), rfl⟩
  · go_enter Tryd.func26, Tryd.ntmps26
    go_wp2_with (go_at_call 20; refine (Width_2 _).mono ?_; rintro e w' ⟨rfl, rfl⟩)
    all_goals go_ret
    all_goals exact ⟨ret_bool (by rw [Bool.eq_iff_iff]; simp [fitsF]; try omega), rfl⟩
  · go_enter Tryd.func26, Tryd.ntmps26
    go_wp2_with (go_at_call 20; refine (Width_3 _).mono ?_; rintro e w' ⟨rfl, rfl⟩)
    all_goals go_ret
    all_goals exact ⟨ret_bool (by rw [Bool.eq_iff_iff]; simp [fitsF]; try omega), rfl⟩
  · go_enter Tryd.func26, Tryd.ntmps26
    go_wp2_with (go_at_call 20; refine (Width_4 _).mono ?_; rintro e w' ⟨rfl, rfl⟩)
    all_goals go_ret
    all_goals exact ⟨ret_bool (by rw [Bool.eq_iff_iff]; simp [fitsF]; try omega), rfl⟩
  · go_enter Tryd.func26, Tryd.ntmps26
    go_wp2_with (go_at_call 20; refine (Width_5 _).mono ?_; rintro e w' ⟨rfl, rfl⟩)
    all_goals go_ret
    all_goals exact ⟨ret_bool (by rw [Bool.eq_iff_iff]; simp [fitsF]; try omega), rfl⟩
  · have hF : fitsF k n = false := by simp only [beq_eq_false_iff_ne, ne_eq] at h1 h2 h3 h4 h5; simp [fitsF, h1, h2, h3, h4, h5]
    rw [hF]
    clear hF
    go_enter Tryd.func26, Tryd.ntmps26
    go_wp2_with (go_at_call 20; refine (Width_0 _ _ h1 h2 h3 h4 h5).mono ?_; rintro e w' ⟨rfl, rfl⟩)
    go_ret
    exact ⟨rfl, rfl⟩
end Go.Proofs.YtckjnlonijodcaaDoor.Cell
