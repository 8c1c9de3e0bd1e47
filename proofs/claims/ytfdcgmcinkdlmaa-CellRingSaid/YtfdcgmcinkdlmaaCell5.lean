/-
  The reference's bits: bit, power, bitwise, moved. Conditions: the numbers are words.
-/
import Derived.Test.YtfdcgmcinkdlmaaCell4
import Derived.Test.YtfdcgmcinkdlmaaBits
import Derived.Deep.RegionWith
namespace Go.Proofs.Ytfdcgmcinkdlmaa.Cell
open Go.RowKit Go.Proofs.Ytfdcgmcinkdlmaa.W Go.Proofs.Ytfdcgmcinkdlmaa.Num

theorem bit_any (n i : Nat) (w : World) (hn : n < 65536) (hi : i ≤ 65536) : Calls Try.prog 39 #[.int .i64 n, .int .i64 i] w fun e w' => e = .returned (.int .i64 (bitOf n i : Int)) ∧ w = w' := by
  go_enter Try.func39, Try.ntmps39
  go_wp2
  go_loop [0, 5] (fun m j => ∃ k : Nat, k ≤ i ∧ j = .int .i64 k ∧ m = .int .i64 ((n / 2 ^ k : Nat) : Int)) (fun _ j => i - (intOf j).toNat)
  case atStart => exact ⟨0, Nat.zero_le _, rfl, by simp⟩
  case round =>
    obtain ⟨k, hk, rfl, rfl⟩ := hrel
    have hm : n / 2 ^ k < 65536 := Nat.lt_of_le_of_lt (Nat.div_le_self _ _) hn
    have H : Hid (n / 2 ^ (k + 1) = n / 2 ^ k / 2) := by rw [Hid, Nat.pow_succ, Nat.div_div_eq_div_mul]
    have H2 : Hid (bitOf n k = n / 2 ^ k % 2) := rfl
    generalize n / 2 ^ k = m at hm H H2
    by_cases hlt : k < i
    · go_wp2
      go_round
      case rel => exact ⟨k + 1, by omega, by go_num, by rw [H.out]; go_num⟩
      case measure => simp [intOf]; omega
    · obtain rfl : k = i := by omega
      go_wp2
      go_ret
      exact ⟨ret_int (by rw [H2.out]; rfl), rfl⟩

theorem power_any (i : Nat) (w : World) (hi : i ≤ 16) : Calls Try.prog 40 #[.int .i64 i] w fun e w' => e = .returned (.int .i64 ((2 ^ i : Nat) : Int)) ∧ w = w' := by
  go_enter Try.func40, Try.ntmps40
  go_wp2
  go_loop [3, 4] (fun m j => ∃ k : Nat, k ≤ i ∧ j = .int .i64 k ∧ m = .int .i64 ((2 ^ k : Nat) : Int)) (fun _ j => i - (intOf j).toNat)
  case atStart => exact ⟨0, Nat.zero_le _, rfl, by simp⟩
  case round =>
    obtain ⟨k, hk, rfl, rfl⟩ := hrel
    have hm : 2 ^ k ≤ 65536 := Nat.le_trans (Nat.pow_le_pow_right (by omega) (show k ≤ 16 by omega)) (by decide)
    have H : Hid (2 ^ (k + 1) = 2 ^ k * 2) := Nat.pow_succ ..
    have H2 : Hid (((2 ^ k : Nat) : Int) = (2 : Int) ^ k) := by simp [Hid]
    by_cases hlt : k < i
    · generalize 2 ^ k = m at hm H H2
      go_wp2
      go_round
      case rel => exact ⟨k + 1, by omega, by go_num, by rw [H.out]; go_num⟩
      case measure => simp [intOf]; omega
    · obtain rfl : k = i := by omega
      generalize 2 ^ k = m at hm H H2 ⊢
      go_wp2
      go_ret
      exact ⟨ret_int (by first | rfl | exact H2.out), rfl⟩

def bitwiseN (op : Int) (a b : Nat) : Nat := if op = 6 then a &&& b else if op = 7 then a ||| b else if op = 8 then a ^^^ b else 65535 - a
theorem bitwise_lt (op : Int) {a b : Nat} (ha : a < 65536) (hb : b < 65536) : bitwiseN op a b < 65536 := by
  unfold bitwiseN
  split
  · exact Nat.and_lt_two_pow (n := 16) _ hb
  · split
    · exact Nat.or_lt_two_pow (n := 16) ha hb
    · split
      · exact Nat.xor_lt_two_pow (n := 16) ha hb
      · omega
theorem bitwise_bit (op : Int) (a b i : Nat) (ho : op = 6 ∨ op = 7 ∨ op = 8 ∨ op = 21) (ha : a < 65536) (hi : i < 16) :
    bitOf (bitwiseN op a b) i = if op = 6 then (if bitOf a i = 1 ∧ bitOf b i = 1 then 1 else 0) else if op = 7 then (if bitOf a i = 1 ∨ bitOf b i = 1 then 1 else 0) else if op = 8 then (if bitOf a i = bitOf b i then 0 else 1) else (if bitOf a i = 0 then 1 else 0) := by
  rcases ho with rfl | rfl | rfl | rfl
  · exact bit_and a b i
  · exact bit_or a b i
  · exact bit_xor a b i
  · exact bit_not a i ha hi

set_option maxHeartbeats 4000000 in
theorem bitwise_any (op : Int) (a b : Nat) (w : World) (ho : op = 6 ∨ op = 7 ∨ op = 8 ∨ op = 21) (ha : a < 65536) (hb : b < 65536) :
    Calls Try.prog 31 #[.int .i64 op, .int .i64 a, .int .i64 b] w fun e w' => e = .returned (.int .i64 (bitwiseN op a b : Int)) ∧ w = w' := by
  have hz := bitwise_lt op ha hb
  have hbit := fun i hi => bitwise_bit op a b i ho ha hi
  generalize bitwiseN op a b = Z at hz hbit
  have HB := Lib.hid hbit
  clear hbit
  rcases ho with rfl | rfl | rfl | rfl
  all_goals go_enter Try.func31, Try.ntmps31
  all_goals go_wp2
  all_goals
    go_loop [7, 8, 9, 10, 11] (fun n i _ _ _ => ∃ k : Nat, k ≤ 16 ∧ i = .int .i64 k ∧ n = .int .i64 ((Z % 2 ^ k : Nat) : Int)) (fun _ i _ _ _ => 16 - (intOf i).toNat)
    case atStart => exact ⟨0, Nat.zero_le _, rfl, by simp [Nat.mod_one]⟩
    case round =>
      obtain ⟨k, hk, rfl, rfl⟩ := hrel
      by_cases hlt : k < 16
      · have hm : 2 ^ k ≤ 65536 := Nat.le_trans (Nat.pow_le_pow_right (by omega) (show k ≤ 16 by omega)) (by decide)
        have hr : Z % 2 ^ k < 65536 := Nat.lt_of_le_of_lt (Nat.mod_le _ _) hz
        have HN : Hid (Z % 2 ^ (k + 1) = Z % 2 ^ k + bitOf Z k * 2 ^ k) := mod_next Z k
        have hZ := HB.out k hlt
        generalize hx : bitOf a k = x at hZ
        generalize hy : bitOf b k = y at hZ
        have x01 : x = 0 ∨ x = 1 := hx ▸ bit_01 a k
        have y01 : y = 0 ∨ y = 1 := hy ▸ bit_01 b k
        have HX := Lib.hid hx
        have HY := Lib.hid hy
        clear hx hy
        rcases x01 with rfl | rfl
        all_goals rcases y01 with rfl | rfl
        all_goals simp at hZ
        all_goals rw [hZ] at HN
        all_goals clear hZ
        all_goals generalize Z % 2 ^ k = r at hr HN
        all_goals have HP := Lib.hid (power_any k · (show k ≤ 16 by omega))
        all_goals generalize 2 ^ k = m at hm HN HP
        all_goals go_wp2_with (first | (go_at_call_of 39 (Value.int .i64 (a : Int)); refine (bit_any a k _ ha (by omega)).mono ?_; rintro e w' ⟨rfl, rfl⟩; rw [HX.out]) | (go_at_call_of 39 (Value.int .i64 (b : Int)); refine (bit_any b k _ hb (by omega)).mono ?_; rintro e w' ⟨rfl, rfl⟩; rw [HY.out]) | (go_at_call 40; refine (HP.out _).mono ?_; rintro e w' ⟨rfl, rfl⟩))
        all_goals go_round
        all_goals first | exact ⟨k + 1, by omega, by go_num, by rw [HN.out]; first | go_num | (congr 1; omega)⟩ | (simp [intOf]; omega)
      · obtain rfl : k = 16 := by omega
        have hE : Z % 2 ^ 16 = Z := Nat.mod_eq_of_lt hz
        rw [hE]
        clear hE
        go_wp2
        go_ret
        exact ⟨rfl, rfl⟩

theorem rot_bit (x r i : Nat) (hx : x < 65536) (hr : r < 16) (hi : i < 16) : bitOf (rotN x r) i = bitOf x ((i + 16 - r) % 16) := by
  unfold rotN
  rw [bit_or, bit_shl x r i hi, bit_shr]
  by_cases h : r ≤ i
  · rw [if_pos h, bit_high x (i + (16 - r)) hx (by omega), show (i + 16 - r) % 16 = i - r from by omega]
    rcases bit_01 x (i - r) with h0 | h0 <;> simp [h0]
  · rw [if_neg h, show (i + 16 - r) % 16 = i + (16 - r) from by omega]
    rcases bit_01 x (i + (16 - r)) with h0 | h0 <;> simp [h0]
theorem shift_bit (op : Int) (x b i : Nat) (ho : op = 15 ∨ op = 16 ∨ op = 17 ∨ op = 18) (hx : x < 65536) (hi : i < 16) :
    bitOf (shiftF op x b) i = if op = 15 then (if b ≤ i then bitOf x (i - b) else 0) else if op = 16 then (if i + b < 16 then bitOf x (i + b) else 0) else if op = 17 then bitOf x ((i + 16 - b % 16) % 16) else bitOf x ((i + b) % 16) := by
  rcases ho with rfl | rfl | rfl | rfl
  · show bitOf (x * 2 ^ min b 16 % 65536) i = if b ≤ i then bitOf x (i - b) else 0
    rw [bit_shl x _ i hi]
    by_cases h : b ≤ i
    · rw [if_pos h, show min b 16 = b from by omega, if_pos h]
    · rw [if_neg h, if_neg (by omega)]
  · show bitOf (x / 2 ^ min b 16) i = if i + b < 16 then bitOf x (i + b) else 0
    rw [bit_shr]
    by_cases h : i + b < 16
    · rw [if_pos h, show min b 16 = b from by omega]
    · rw [if_neg h, bit_high x _ hx (by omega)]
  · show bitOf (rotN x (b % 16)) i = bitOf x ((i + 16 - b % 16) % 16)
    exact rot_bit x _ i hx (by omega) hi
  · show bitOf (rotN x ((16 - b % 16) % 16)) i = bitOf x ((i + b) % 16)
    rw [rot_bit x _ i hx (by omega) hi, show (i + 16 - (16 - b % 16) % 16) % 16 = (i + b) % 16 from by omega]

set_option maxHeartbeats 4000000 in
theorem moved_15 (a b : Nat) (w : World) (ha : a < 65536) (hb : b ≤ 32767) :
    Calls Try.prog 33 #[.int .i64 15, .int .i64 a, .int .i64 b] w fun e w' => e = .returned (.int .i64 (shiftF 15 a b : Int)) ∧ w = w' := by
  have hz := shift_lt 15 b ha
  have hbit := fun i hi => shift_bit 15 a b i (by omega) ha hi
  generalize shiftF 15 a b = Z at hz hbit
  have HB := Lib.hid hbit
  clear hbit
  go_enter Try.func33, Try.ntmps33
  go_wp2
  go_loop [7, 8, 9] (fun n i _ => ∃ k : Nat, k ≤ 16 ∧ i = .int .i64 k ∧ n = .int .i64 ((Z % 2 ^ k : Nat) : Int)) (fun _ i _ => 16 - (intOf i).toNat)
  case atStart => exact ⟨0, Nat.zero_le _, rfl, by simp [Nat.mod_one]⟩
  case round =>
    obtain ⟨k, hk, rfl, rfl⟩ := hrel
    by_cases hlt : k < 16
    · have hm : 2 ^ k ≤ 65536 := Nat.le_trans (Nat.pow_le_pow_right (by omega) (show k ≤ 16 by omega)) (by decide)
      have hr : Z % 2 ^ k < 65536 := Nat.lt_of_le_of_lt (Nat.mod_le _ _) hz
      have HN : Hid (Z % 2 ^ (k + 1) = Z % 2 ^ k + bitOf Z k * 2 ^ k) := mod_next Z k
      have hZ := HB.out k hlt
      have z01 := bit_01 Z k
      generalize bitOf Z k = z at hZ z01 HN
      generalize Z % 2 ^ k = r at hr HN
      have HP := Lib.hid (power_any k · (show k ≤ 16 by omega))
      generalize 2 ^ k = m at hm HN HP
      by_cases hc : b ≤ k
      · have hZ' : bitOf a (k - b) = z := by rw [hZ]; simp [hc]
        have e1 : ((k : Int) - (b : Int)) = ((k - b : Nat) : Int) := by omega
        have s16 : k - b < 16 := by omega
        clear hc
        generalize k - b = s at *
        have HZ := Lib.hid hZ'
        clear hZ hZ'
        rcases z01 with rfl | rfl
        all_goals go_wp2_with (first | (go_at_call 39; refine (bit_any a s _ ha (by omega)).mono ?_; rintro e w' ⟨rfl, rfl⟩; rw [HZ.out]) | (go_at_call 40; refine (HP.out _).mono ?_; rintro e w' ⟨rfl, rfl⟩))
        all_goals go_round
        all_goals first | exact ⟨k + 1, by omega, by go_num, by rw [HN.out]; first | go_num | (congr 1; omega)⟩ | (simp [intOf]; omega)
      · have hz0 : z = 0 := by rw [hZ]; simp [hc]
        clear hZ z01
        subst hz0
        go_wp2
        go_round
        case rel => exact ⟨k + 1, by omega, by go_num, by rw [HN.out]; first | go_num | (congr 1; omega)⟩
        case measure => simp [intOf]; omega
    · obtain rfl : k = 16 := by omega
      have hE : Z % 2 ^ 16 = Z := Nat.mod_eq_of_lt hz
      rw [hE]
      clear hE
      go_wp2
      go_ret
      exact ⟨rfl, rfl⟩
set_option maxHeartbeats 4000000 in
theorem moved_16 (a b : Nat) (w : World) (ha : a < 65536) (hb : b ≤ 32767) :
    Calls Try.prog 33 #[.int .i64 16, .int .i64 a, .int .i64 b] w fun e w' => e = .returned (.int .i64 (shiftF 16 a b : Int)) ∧ w = w' := by
  have hz := shift_lt 16 b ha
  have hbit := fun i hi => shift_bit 16 a b i (by omega) ha hi
  generalize shiftF 16 a b = Z at hz hbit
  have HB := Lib.hid hbit
  clear hbit
  go_enter Try.func33, Try.ntmps33
  go_wp2
  go_loop [7, 8, 9] (fun n i _ => ∃ k : Nat, k ≤ 16 ∧ i = .int .i64 k ∧ n = .int .i64 ((Z % 2 ^ k : Nat) : Int)) (fun _ i _ => 16 - (intOf i).toNat)
  case atStart => exact ⟨0, Nat.zero_le _, rfl, by simp [Nat.mod_one]⟩
  case round =>
    obtain ⟨k, hk, rfl, rfl⟩ := hrel
    by_cases hlt : k < 16
    · have hm : 2 ^ k ≤ 65536 := Nat.le_trans (Nat.pow_le_pow_right (by omega) (show k ≤ 16 by omega)) (by decide)
      have hr : Z % 2 ^ k < 65536 := Nat.lt_of_le_of_lt (Nat.mod_le _ _) hz
      have HN : Hid (Z % 2 ^ (k + 1) = Z % 2 ^ k + bitOf Z k * 2 ^ k) := mod_next Z k
      have hZ := HB.out k hlt
      have z01 := bit_01 Z k
      generalize bitOf Z k = z at hZ z01 HN
      generalize Z % 2 ^ k = r at hr HN
      have HP := Lib.hid (power_any k · (show k ≤ 16 by omega))
      generalize 2 ^ k = m at hm HN HP
      by_cases hc : k + b < 16
      · have hZ' : bitOf a (k + b) = z := by rw [hZ]; simp [hc]
        have e1 : ((k : Int) + (b : Int)) = ((k + b : Nat) : Int) := by omega
        have s16 : k + b < 16 := by omega
        clear hc
        generalize k + b = s at *
        have HZ := Lib.hid hZ'
        clear hZ hZ'
        rcases z01 with rfl | rfl
        all_goals go_wp2_with (first | (go_at_call 39; refine (bit_any a s _ ha (by omega)).mono ?_; rintro e w' ⟨rfl, rfl⟩; rw [HZ.out]) | (go_at_call 40; refine (HP.out _).mono ?_; rintro e w' ⟨rfl, rfl⟩))
        all_goals go_round
        all_goals first | exact ⟨k + 1, by omega, by go_num, by rw [HN.out]; first | go_num | (congr 1; omega)⟩ | (simp [intOf]; omega)
      · have hz0 : z = 0 := by rw [hZ]; simp [hc]
        clear hZ z01
        subst hz0
        go_wp2
        go_round
        case rel => exact ⟨k + 1, by omega, by go_num, by rw [HN.out]; first | go_num | (congr 1; omega)⟩
        case measure => simp [intOf]; omega
    · obtain rfl : k = 16 := by omega
      have hE : Z % 2 ^ 16 = Z := Nat.mod_eq_of_lt hz
      rw [hE]
      clear hE
      go_wp2
      go_ret
      exact ⟨rfl, rfl⟩
set_option maxHeartbeats 4000000 in
theorem moved_17 (a b : Nat) (w : World) (ha : a < 65536) (hb : b ≤ 32767) :
    Calls Try.prog 33 #[.int .i64 17, .int .i64 a, .int .i64 b] w fun e w' => e = .returned (.int .i64 (shiftF 17 a b : Int)) ∧ w = w' := by
  have hz := shift_lt 17 b ha
  have hbit := fun i hi => shift_bit 17 a b i (by omega) ha hi
  generalize shiftF 17 a b = Z at hz hbit
  have HB := Lib.hid hbit
  clear hbit
  go_enter Try.func33, Try.ntmps33
  go_wp2
  go_loop [7, 8, 9] (fun n i _ => ∃ k : Nat, k ≤ 16 ∧ i = .int .i64 k ∧ n = .int .i64 ((Z % 2 ^ k : Nat) : Int)) (fun _ i _ => 16 - (intOf i).toNat)
  case atStart => exact ⟨0, Nat.zero_le _, rfl, by simp [Nat.mod_one]⟩
  case round =>
    obtain ⟨k, hk, rfl, rfl⟩ := hrel
    by_cases hlt : k < 16
    · have hm : 2 ^ k ≤ 65536 := Nat.le_trans (Nat.pow_le_pow_right (by omega) (show k ≤ 16 by omega)) (by decide)
      have hr : Z % 2 ^ k < 65536 := Nat.lt_of_le_of_lt (Nat.mod_le _ _) hz
      have HN : Hid (Z % 2 ^ (k + 1) = Z % 2 ^ k + bitOf Z k * 2 ^ k) := mod_next Z k
      have hZ := HB.out k hlt
      have z01 := bit_01 Z k
      generalize bitOf Z k = z at hZ z01 HN
      generalize Z % 2 ^ k = r at hr HN
      have HP := Lib.hid (power_any k · (show k ≤ 16 by omega))
      generalize 2 ^ k = m at hm HN HP
      have hZ' : bitOf a ((k + 16 - b % 16) % 16) = z := by rw [hZ]; rfl
      obtain ⟨t, e1, t1, t2, q, hq⟩ := Cell.tmod_parts ((k : Int) - (b : Int)) 16 (by omega)
      have e2 : (t + 16) % 16 = (((k + 16 - b % 16) % 16 : Nat) : Int) := by omega
      have s16 : (k + 16 - b % 16) % 16 < 16 := by omega
      clear hq
      generalize (k + 16 - b % 16) % 16 = s at *
      have HZ := Lib.hid hZ'
      clear hZ hZ'
      rcases z01 with rfl | rfl
      all_goals go_wp2_with (first | (go_at_call 39; refine (bit_any a s _ ha (by omega)).mono ?_; rintro e w' ⟨rfl, rfl⟩; rw [HZ.out]) | (go_at_call 40; refine (HP.out _).mono ?_; rintro e w' ⟨rfl, rfl⟩))
      all_goals go_round
      all_goals first | exact ⟨k + 1, by omega, by go_num, by rw [HN.out]; first | go_num | (congr 1; omega)⟩ | (simp [intOf]; omega)
    · obtain rfl : k = 16 := by omega
      have hE : Z % 2 ^ 16 = Z := Nat.mod_eq_of_lt hz
      rw [hE]
      clear hE
      go_wp2
      go_ret
      exact ⟨rfl, rfl⟩
set_option maxHeartbeats 4000000 in
theorem moved_18 (a b : Nat) (w : World) (ha : a < 65536) (hb : b ≤ 32767) :
    Calls Try.prog 33 #[.int .i64 18, .int .i64 a, .int .i64 b] w fun e w' => e = .returned (.int .i64 (shiftF 18 a b : Int)) ∧ w = w' := by
  have hz := shift_lt 18 b ha
  have hbit := fun i hi => shift_bit 18 a b i (by omega) ha hi
  generalize shiftF 18 a b = Z at hz hbit
  have HB := Lib.hid hbit
  clear hbit
  go_enter Try.func33, Try.ntmps33
  go_wp2
  go_loop [7, 8, 9] (fun n i _ => ∃ k : Nat, k ≤ 16 ∧ i = .int .i64 k ∧ n = .int .i64 ((Z % 2 ^ k : Nat) : Int)) (fun _ i _ => 16 - (intOf i).toNat)
  case atStart => exact ⟨0, Nat.zero_le _, rfl, by simp [Nat.mod_one]⟩
  case round =>
    obtain ⟨k, hk, rfl, rfl⟩ := hrel
    by_cases hlt : k < 16
    · have hm : 2 ^ k ≤ 65536 := Nat.le_trans (Nat.pow_le_pow_right (by omega) (show k ≤ 16 by omega)) (by decide)
      have hr : Z % 2 ^ k < 65536 := Nat.lt_of_le_of_lt (Nat.mod_le _ _) hz
      have HN : Hid (Z % 2 ^ (k + 1) = Z % 2 ^ k + bitOf Z k * 2 ^ k) := mod_next Z k
      have hZ := HB.out k hlt
      have z01 := bit_01 Z k
      generalize bitOf Z k = z at hZ z01 HN
      generalize Z % 2 ^ k = r at hr HN
      have HP := Lib.hid (power_any k · (show k ≤ 16 by omega))
      generalize 2 ^ k = m at hm HN HP
      have hZ' : bitOf a ((k + b) % 16) = z := by rw [hZ]; rfl
      have e1 : ((k : Int) + (b : Int)) % 16 = (((k + b) % 16 : Nat) : Int) := by omega
      have e2 : ((((k + b) % 16 : Nat) : Int) + 16) % 16 = (((k + b) % 16 : Nat) : Int) := by omega
      have s16 : (k + b) % 16 < 16 := by omega
      generalize (k + b) % 16 = s at *
      have HZ := Lib.hid hZ'
      clear hZ hZ'
      rcases z01 with rfl | rfl
      all_goals go_wp2_with (first | (go_at_call 39; refine (bit_any a s _ ha (by omega)).mono ?_; rintro e w' ⟨rfl, rfl⟩; rw [HZ.out]) | (go_at_call 40; refine (HP.out _).mono ?_; rintro e w' ⟨rfl, rfl⟩))
      all_goals go_round
      all_goals first | exact ⟨k + 1, by omega, by go_num, by rw [HN.out]; first | go_num | (congr 1; omega)⟩ | (simp [intOf]; omega)
    · obtain rfl : k = 16 := by omega
      have hE : Z % 2 ^ 16 = Z := Nat.mod_eq_of_lt hz
      rw [hE]
      clear hE
      go_wp2
      go_ret
      exact ⟨rfl, rfl⟩
theorem shift_zero (op : Int) (a : Nat) (ho : op = 15 ∨ op = 16 ∨ op = 17 ∨ op = 18) (ha : a < 65536) : shiftF op a 0 = a := by
  rcases ho with rfl | rfl | rfl | rfl
  · show a * 2 ^ 0 % 65536 = a
    rw [Nat.pow_zero, Nat.mul_one, Nat.mod_eq_of_lt ha]
  · show a / 2 ^ 0 = a
    rw [Nat.pow_zero, Nat.div_one]
  · exact rot_zero ha
  · exact rot_zero ha
set_option maxHeartbeats 4000000 in
theorem moved_neg (op : Int) (a : Nat) (b : Int) (w : World) (ho : op = 15 ∨ op = 16 ∨ op = 17 ∨ op = 18) (ha : a < 65536) (hb : b < 0) :
    Calls Try.prog 33 #[.int .i64 op, .int .i64 a, .int .i64 b] w fun e w' => e = .returned (.int .i64 (a : Int)) ∧ w = w' := by
  rcases ho with rfl | rfl | rfl | rfl
  all_goals go_enter Try.func33, Try.ntmps33
  all_goals go_wp2
  all_goals
    go_loop [7, 8, 9] (fun n i _ => ∃ k : Nat, k ≤ 16 ∧ i = .int .i64 k ∧ n = .int .i64 ((a % 2 ^ k : Nat) : Int)) (fun _ i _ => 16 - (intOf i).toNat)
    case atStart => exact ⟨0, Nat.zero_le _, rfl, by simp [Nat.mod_one]⟩
    case round =>
      obtain ⟨k, hk, rfl, rfl⟩ := hrel
      by_cases hlt : k < 16
      · have hm : 2 ^ k ≤ 65536 := Nat.le_trans (Nat.pow_le_pow_right (by omega) (show k ≤ 16 by omega)) (by decide)
        have hr : a % 2 ^ k < 65536 := Nat.lt_of_le_of_lt (Nat.mod_le _ _) ha
        have HN : Hid (a % 2 ^ (k + 1) = a % 2 ^ k + bitOf a k * 2 ^ k) := mod_next a k
        have z01 := bit_01 a k
        generalize hz : bitOf a k = z at z01 HN
        have HZ := Lib.hid hz
        clear hz
        generalize a % 2 ^ k = r at hr HN
        have HP := Lib.hid (power_any k · (show k ≤ 16 by omega))
        generalize 2 ^ k = m at hm HN HP
        have e1 : (k : Int) % 16 = (k : Int) := by omega
        have e2 : ((k : Int) + 16) % 16 = (k : Int) := by omega
        rcases z01 with rfl | rfl
        all_goals go_wp2_with (first | (go_at_call 39; refine (bit_any a k _ ha (by omega)).mono ?_; rintro e w' ⟨rfl, rfl⟩; rw [HZ.out]) | (go_at_call 40; refine (HP.out _).mono ?_; rintro e w' ⟨rfl, rfl⟩))
        all_goals go_round
        all_goals first | exact ⟨k + 1, by omega, by go_num, by rw [HN.out]; first | go_num | (congr 1; omega)⟩ | (simp [intOf]; omega)
      · obtain rfl : k = 16 := by omega
        have hE : a % 2 ^ 16 = a := Nat.mod_eq_of_lt ha
        rw [hE]
        clear hE
        go_wp2
        go_ret
        exact ⟨rfl, rfl⟩
theorem moved_any (op : Int) (a : Nat) (b : Int) (w : World) (ho : op = 15 ∨ op = 16 ∨ op = 17 ∨ op = 18) (ha : a < 65536) (h3 : -32768 ≤ b) (h4 : b ≤ 32767) :
    Calls Try.prog 33 #[.int .i64 op, .int .i64 a, .int .i64 b] w fun e w' => e = .returned (.int .i64 (shiftF op a b.toNat : Int)) ∧ w = w' := by
  by_cases hb : b < 0
  · rw [show b.toNat = 0 from by omega, shift_zero op a ho ha]
    exact moved_neg op a b w ho ha hb
  · obtain ⟨n, rfl⟩ := Int.eq_ofNat_of_zero_le (show 0 ≤ b by omega)
    rw [Int.toNat_natCast]
    rcases ho with rfl | rfl | rfl | rfl
    · exact moved_15 a n w ha (by omega)
    · exact moved_16 a n w ha (by omega)
    · exact moved_17 a n w ha (by omega)
    · exact moved_18 a n w ha (by omega)
end Go.Proofs.Ytfdcgmcinkdlmaa.Cell
