/-
  What cell does with two numbers: reckon, compare, shift, Convert, Do. Conditions: the numbers are ints.
-/
import Derived.Test.YtfdcgmcinkdlmaaCell2
import Derived.Deep.QuietTactic
import Derived.BigQuiet
namespace Go.Proofs.Ytfdcgmcinkdlmaa.Cell
open Go.RowKit Go.Proofs.Ytfdcgmcinkdlmaa.W Go.Proofs.Ytfdcgmcinkdlmaa.Num

def yesF (b : Bool) : Int := if b then 1 else 0
theorem truth_any (b : Bool) (w : World) : Calls Try.prog 38 #[.bool b] w fun e w' => e = .returned (.int .i64 (yesF b)) ∧ w = w' := by
  cases b
  all_goals go_enter Try.func38, Try.ntmps38
  all_goals go_wp2
  all_goals go_ret
  all_goals exact ⟨rfl, rfl⟩
theorem yes_any (b : Bool) (w : World) : Calls Try.prog 32 #[.bool b] w fun e w' => e = .returned (.int .i64 (yesF b)) ∧ w = w' := by
  cases b
  all_goals go_enter Try.func32, Try.ntmps32
  all_goals go_wp2
  all_goals go_ret
  all_goals exact ⟨rfl, rfl⟩
theorem wrap_bd (k n : Int) : -2147483648 ≤ wrapF k n ∧ wrapF k n ≤ 4294967295 := by
  unfold wrapF
  repeat' split
  all_goals omega

def reckonF (op a b : Int) : Int :=
  if op = 1 then a + b else if op = 2 then a - b else if op = 3 then wrap64 (a * b) else if op = 4 then a.tdiv b else if op = 5 then a.tmod b else if op = 6 then bits .and .i64 a b else if op = 7 then bits .or .i64 a b
  else if op = 8 then bits .xor .i64 a b else if op = 19 then (if b < a then b else a) else if op = 20 then (if a < b then b else a) else if op = 21 then bits .xor .i64 (-1) a else if op = 22 then -a else if a < 0 then -a else a

theorem tdiv_bd (a b : Int) : -(a.natAbs : Int) ≤ a.tdiv b ∧ a.tdiv b ≤ (a.natAbs : Int) := by
  have h := Int.natAbs_tdiv a b
  have h2 := Nat.div_le_self a.natAbs b.natAbs
  have h3 : (a.tdiv b).natAbs ≤ a.natAbs := by rw [h]; exact h2
  omega
set_option maxHeartbeats 4000000 in
theorem reckon_any (op a b : Int) (w : World) (h1 : -2147483648 ≤ a) (h2 : a ≤ 4294967295) (h3 : -2147483648 ≤ b) (h4 : b ≤ 4294967295) (hb : (op = 4 ∨ op = 5) → b < 0 ∨ 0 < b) :
    Calls Try.prog 30 #[.int .i64 op, .int .i64 a, .int .i64 b] w fun e w' => e = .returned (.int .i64 (reckonF op a b)) ∧ w = w' := by
  by_cases ho : op = 4 ∨ op = 5
  · replace hb := hb ho
    have hd := tdiv_bd a b
    rcases ho with rfl | rfl
    all_goals rcases hb with hb | hb
    all_goals go_enter Try.func30, Try.ntmps30
    all_goals go_wp2
    all_goals go_ret
    all_goals refine ⟨ret_int ?_, rfl⟩
    · rfl
    · rfl
    · rfl
    · rfl
  · have n4 : (op == 4) = false := by simp; omega
    have n5 : (op == 5) = false := by simp; omega
    clear hb ho
    rcases ops op with rfl | rfl | rfl | rfl | rfl | rfl | rfl | rfl | rfl | rfl | rfl | rfl | rfl | rfl | rfl | rfl | rfl | rfl | rfl | rfl | rfl | rfl | rfl | ⟨o1, o2, o3, o4, o5, o6, o7, o8, o9, o10, o11, o12, o13, o14, o15, o16, o17, o18, o19, o20, o21, o22, o23⟩
    all_goals first | (exfalso; simp at n4; done) | (exfalso; simp at n5; done) | skip
    all_goals go_enter Try.func30, Try.ntmps30
    all_goals go_wp2
    all_goals go_ret
    all_goals refine ⟨ret_int ?_, rfl⟩
    all_goals (simp_all [reckonF]; try omega)

def compareF (op a b : Int) : Int := if op = 9 then yesF (a == b) else if op = 10 then yesF (!(a == b)) else if op = 11 then yesF (decide (a < b)) else if op = 12 then yesF (decide (a < b) || a == b) else if op = 13 then yesF (!decide (a < b) && !(a == b)) else yesF (!decide (a < b))
set_option maxHeartbeats 4000000 in
theorem compare_any (op a b : Int) (w : World) :
    Calls Try.prog 29 #[.int .i64 op, .int .i64 a, .int .i64 b] w fun e w' => e = .returned (.int .i64 (compareF op a b)) ∧ w = w' := by
  rcases ops op with rfl | rfl | rfl | rfl | rfl | rfl | rfl | rfl | rfl | rfl | rfl | rfl | rfl | rfl | rfl | rfl | rfl | rfl | rfl | rfl | rfl | rfl | rfl | ⟨o1, o2, o3, o4, o5, o6, o7, o8, o9, o10, o11, o12, o13, o14, o15, o16, o17, o18, o19, o20, o21, o22, o23⟩
  all_goals go_enter Try.func29, Try.ntmps29
  all_goals go_wp2_with (go_at_call 38; refine (truth_any _ _).mono ?_; rintro e w' ⟨rfl, rfl⟩)
  all_goals go_ret
  all_goals refine ⟨ret_int ?_, rfl⟩
  all_goals (simp_all [compareF]; done)

def rotN (x r : Nat) : Nat := (x * 2 ^ r % 65536) ||| (x / 2 ^ (16 - r))
def shiftF (op : Int) (x b : Nat) : Nat := if op = 15 then x * 2 ^ min b 16 % 65536 else if op = 16 then x / 2 ^ min b 16 else if op = 17 then rotN x (b % 16) else rotN x ((16 - b % 16) % 16)
theorem cast_mul_pow (x r : Nat) : ((x : Int) * 2 ^ r) % 65536 = ((x * 2 ^ r % 65536 : Nat) : Int) := by
  rw [Int.natCast_emod, Int.natCast_mul, Int.natCast_pow]
  rfl
theorem cast_div_pow (x r : Nat) : (x : Int) / 2 ^ r = ((x / 2 ^ r : Nat) : Int) := by
  rw [Int.natCast_ediv, Int.natCast_pow]
  rfl
theorem div_lt16 {x : Nat} (r : Nat) (h : x < 65536) : x / 2 ^ r < 65536 := Nat.lt_of_le_of_lt (Nat.div_le_self _ _) h
theorem rot_lt {x : Nat} (r : Nat) (h : x < 65536) : rotN x r < 65536 := by
  unfold rotN
  have : x * 2 ^ r % 65536 ||| x / 2 ^ (16 - r) < 2 ^ 16 := Nat.or_lt_two_pow (by omega) (div_lt16 _ h)
  omega
theorem rot_eq {x : Nat} (r : Nat) (h : x < 65536) : wrap64 (bits .or .u16 (IntKind.u16.wrap ((x : Int) * 2 ^ r)) ((x : Int) / 2 ^ (16 - r))) = (rotN x r : Int) := by
  have h2 := rot_lt r h
  unfold rotN at h2 ⊢
  rw [wrap_u16, cast_mul_pow, cast_div_pow, u16_or_nat _ _ (by omega) (div_lt16 _ h), wrap64_in _ (by omega) (by omega)]

theorem rot_zero {x : Nat} (h : x < 65536) : rotN x 0 = x := by
  unfold rotN
  rw [Nat.pow_zero, Nat.mul_one, Nat.mod_eq_of_lt h, show 16 - 0 = 16 from rfl, show (2 : Nat) ^ 16 = 65536 from rfl, Nat.div_eq_of_lt h, Nat.or_zero]
theorem or_none {x : Nat} (h : x < 65536) : wrap64 (bits .or .u16 (x : Int) ((x : Int) / 65536)) = (x : Int) := by
  rw [show ((x : Int) / 65536) = ((0 : Nat) : Int) from by omega, u16_or_nat _ _ h (by omega), Nat.or_zero, wrap64_in _ (by omega) (by omega)]

set_option maxHeartbeats 4000000 in
theorem rot_any (op : Int) (x b : Nat) (w : World) (ho : op = 17 ∨ op = 18) (hx : x < 65536) (h4 : b ≤ 32767) :
    Calls Try.prog 28 #[.int .i64 op, .int .u16 (x : Int), .int .i64 b] w fun e w' => e = .returned (.int .i64 (shiftF op x b : Int)) ∧ ∃ k, w' = w.drewN k := by
  generalize hF : shiftF op x b = F
  have HF := Lib.hid hF
  clear hF
  have e1 : ((b : Int) % 16) = ((b % 16 : Nat) : Int) := by omega
  have e2 : (16 - ((b % 16 : Nat) : Int)) % 16 = (((16 - b % 16) % 16 : Nat) : Int) := by omega
  have e3 : b % 16 < 16 := by omega
  generalize hr : b % 16 = r at e1 e2 e3
  have e4 : (16 - r) % 16 < 16 := by omega
  generalize hs : (16 - r) % 16 = s at e2 e4
  have HR := Lib.hid hr
  have HS := Lib.hid hs
  clear hr hs
  rcases ho with rfl | rfl
  all_goals go_enter Try.func28, Try.ntmps28
  all_goals go_wp2
  all_goals go_quiet (fail)
  all_goals go_wp2
  all_goals go_ret
  all_goals refine ⟨ret_int ?_, _, rfl⟩
  · rw [rot_eq r hx, ← HF.out]
    simp [shiftF, HR.out]
  · rw [rot_eq s hx, ← HF.out]
    simp [shiftF, HR.out, HS.out]
set_option maxHeartbeats 4000000 in
theorem sh_any (op : Int) (x b : Nat) (w : World) (ho : op = 15 ∨ op = 16) (hx : x < 65536) (_h4 : b ≤ 32767) :
    Calls Try.prog 28 #[.int .i64 op, .int .u16 (x : Int), .int .i64 b] w fun e w' => e = .returned (.int .i64 (shiftF op x b : Int)) ∧ ∃ k, w' = w.drewN k := by
  rcases ho with rfl | rfl
  all_goals go_enter Try.func28, Try.ntmps28
  all_goals go_wp2
  all_goals go_ret
  all_goals refine ⟨ret_int ?_, 0, rfl⟩
  · rw [show shiftF 15 x b = x * 2 ^ min b 16 % 65536 from rfl]
    rw [wrap_u16, cast_mul_pow, wrap64_in _ (by omega) (by omega)]
  · rw [show shiftF 16 x b = x / 2 ^ min b 16 from rfl]
    have := div_lt16 (min b 16) hx
    rw [cast_div_pow]
    generalize x / 2 ^ min b 16 = q at this ⊢
    rw [wrap64_in _ (by omega) (by omega)]
/-- less than nought is nought -/
theorem sh_neg (op : Int) (x : Nat) (b : Int) (w : World) (ho : op = 15 ∨ op = 16 ∨ op = 17 ∨ op = 18) (hx : x < 65536) (h4 : b < 0) :
    Calls Try.prog 28 #[.int .i64 op, .int .u16 (x : Int), .int .i64 b] w fun e w' => e = .returned (.int .i64 (shiftF op x 0 : Int)) ∧ ∃ k, w' = w.drewN k := by
  rcases ho with rfl | rfl | rfl | rfl
  all_goals go_enter Try.func28, Try.ntmps28
  all_goals go_wp2
  rotate_left 2
  all_goals try go_quiet (fail)
  all_goals try go_wp2
  all_goals go_ret
  all_goals refine ⟨ret_int ?_, by first | exact ⟨_, rfl⟩ | exact ⟨0, rfl⟩⟩
  · rw [or_none hx, show shiftF 17 x 0 = rotN x 0 from rfl, rot_zero hx]
  · rw [or_none hx, show shiftF 18 x 0 = rotN x 0 from rfl, rot_zero hx]
  · rw [show shiftF 15 x 0 = x * 2 ^ 0 % 65536 from rfl]
    simp only [Nat.pow_zero, Nat.mul_one]
    omega
  · rw [show shiftF 16 x 0 = x / 2 ^ 0 from rfl]
    simp only [Nat.pow_zero, Nat.div_one]
theorem shift_any (op : Int) (x : Nat) (b : Int) (w : World) (ho : op = 15 ∨ op = 16 ∨ op = 17 ∨ op = 18) (hx : x < 65536) (h3 : -32768 ≤ b) (h4 : b ≤ 32767) :
    Calls Try.prog 28 #[.int .i64 op, .int .u16 (x : Int), .int .i64 b] w fun e w' => e = .returned (.int .i64 (shiftF op x b.toNat : Int)) ∧ ∃ k, w' = w.drewN k := by
  by_cases hb : b < 0
  · rw [show b.toNat = 0 from by omega]
    exact sh_neg op x b w ho hx hb
  · obtain ⟨n, rfl⟩ := Int.eq_ofNat_of_zero_le (show 0 ≤ b by omega)
    rw [Int.toNat_natCast]
    have ho : (op = 15 ∨ op = 16) ∨ (op = 17 ∨ op = 18) := by omega
    rcases ho with ho | ho
    · exact sh_any op x n w ho hx (by omega)
    · exact rot_any op x n w ho hx (by omega)

theorem Convert_any (k to n : Int) (w : World) (hn : -9223372036854775808 ≤ n) (hn' : n ≤ 9223372036854775807) : Calls Try.prog 23 #[.int .i64 k, .int .i64 to, .int .i64 n] w fun e w' => e = .returned (.int .i64 (if to = 1 then yesF (wrapF k n != 0) else wrapF to (wrapF k n))) ∧ w = w' := by
  obtain ⟨b1, b2⟩ := wrap_bd k n
  generalize hm : wrapF k n = m at b1 b2
  have HM := Lib.hid hm
  clear hm
  by_cases h : to = 1
  · subst h
    go_enter Try.func23, Try.ntmps23
    go_wp2_with (first | (go_at_call 14; refine (Wrap_any _ _ _ hn hn').mono ?_; rintro e w' ⟨rfl, rfl⟩; rw [HM.out]) | (go_at_call 38; refine (truth_any _ _).mono ?_; rintro e w' ⟨rfl, rfl⟩))
    go_ret
    exact ⟨rfl, rfl⟩
  · have h' : (to == 1) = false := by simp [h]
    rw [if_neg h]
    clear h
    go_enter Try.func23, Try.ntmps23
    go_wp2_with fail
    refine (Wrap_any _ _ _ hn hn').mono ?_
    rintro e w' ⟨rfl, rfl⟩
    rw [HM.out]
    go_wp2_with fail
    refine (Wrap_any _ _ _ (by omega) (by omega)).mono ?_
    rintro e w' ⟨rfl, rfl⟩
    go_wp2
    go_ret
    exact ⟨rfl, rfl⟩
theorem ConvertR_any (k to n : Int) (w : World) : Calls Try.prog 24 #[.int .i64 k, .int .i64 to, .int .i64 n] w fun e w' => e = .returned (.int .i64 (if to = 1 then yesF (wrapF k n != 0) else wrapF to (wrapF k n))) ∧ w = w' := by
  by_cases h : to = 1
  · subst h
    go_enter Try.func24, Try.ntmps24
    go_wp2_with (first | (go_at_call 18; refine (WrapR_any _ _ _).mono ?_; rintro e w' ⟨rfl, rfl⟩) | (go_at_call 32; refine (yes_any _ _).mono ?_; rintro e w' ⟨rfl, rfl⟩))
    go_ret
    exact ⟨rfl, rfl⟩
  · have h' : (to == 1) = false := by simp [h]
    rw [if_neg h]
    clear h
    go_enter Try.func24, Try.ntmps24
    go_wp2_with fail
    refine (WrapR_any _ _ _).mono ?_
    rintro e w' ⟨rfl, rfl⟩
    go_wp2_with fail
    refine (WrapR_any _ _ _).mono ?_
    rintro e w' ⟨rfl, rfl⟩
    go_wp2
    go_ret
    exact ⟨rfl, rfl⟩

/-- what an operation comes to before it is wrapped -/
def rawF (op a b : Int) : Int := if op = 15 ∨ op = 16 ∨ op = 17 ∨ op = 18 then (shiftF op (a % 65536).toNat b.toNat : Int) else if op = 9 ∨ op = 10 ∨ op = 11 ∨ op = 12 ∨ op = 13 ∨ op = 14 then compareF op a b else reckonF op a b
def doF (op k a b : Int) : Int × Bool :=
  if resultF op k = 0 then (0, false) else if (op = 4 ∨ op = 5) ∧ wrapF (secondF op k) b = 0 then (0, true) else (wrapF (resultF op k) (rawF op (wrapF k a) (wrapF (secondF op k) b)), false)
end Go.Proofs.Ytfdcgmcinkdlmaa.Cell
