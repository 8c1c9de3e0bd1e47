/-
  Bits of numbers, plainly. No conditions but bounds: plain lemmas.
-/
import Derived.Test.YtfdcgmcinkdlmaaNum
namespace Go.Proofs.Ytfdcgmcinkdlmaa.Num

def bitOf (n i : Nat) : Nat := n / 2 ^ i % 2
theorem bit_01 (n i : Nat) : bitOf n i = 0 ∨ bitOf n i = 1 := by unfold bitOf; omega
theorem bit_test (n i : Nat) : (bitOf n i = 1) = (n.testBit i = true) := by
  unfold bitOf
  rw [Nat.testBit_eq_decide_div_mod_eq]
  simp
theorem bit_if (n i : Nat) : bitOf n i = if n.testBit i = true then 1 else 0 := by
  have h := bit_test n i
  rcases bit_01 n i with h0 | h0
  · rw [h0] at h ⊢
    simp at h
    simp [h]
  · rw [h0] at h ⊢
    simp at h
    simp [h]
theorem mod_next (z i : Nat) : z % 2 ^ (i + 1) = z % 2 ^ i + bitOf z i * 2 ^ i := by
  unfold bitOf
  rw [Nat.mod_pow_succ, Nat.mul_comm]
theorem bit_and (a b i : Nat) : bitOf (a &&& b) i = if bitOf a i = 1 ∧ bitOf b i = 1 then 1 else 0 := by
  rw [bit_if, Nat.testBit_and, bit_if, bit_if]
  cases a.testBit i <;> cases b.testBit i <;> rfl
theorem bit_or (a b i : Nat) : bitOf (a ||| b) i = if bitOf a i = 1 ∨ bitOf b i = 1 then 1 else 0 := by
  rw [bit_if, Nat.testBit_or, bit_if, bit_if]
  cases a.testBit i <;> cases b.testBit i <;> rfl
theorem bit_xor (a b i : Nat) : bitOf (a ^^^ b) i = if bitOf a i = bitOf b i then 0 else 1 := by
  rw [bit_if, Nat.testBit_xor, bit_if, bit_if]
  cases a.testBit i <;> cases b.testBit i <;> rfl
theorem bit_not (a i : Nat) (ha : a < 65536) (hi : i < 16) : bitOf (65535 - a) i = if bitOf a i = 0 then 1 else 0 := by
  have h := Nat.testBit_two_pow_sub_succ (x := a) (n := 16) ha i
  rw [show 2 ^ 16 - (a + 1) = 65535 - a from by omega] at h
  rw [bit_if, h, bit_if]
  simp [hi]
theorem bit_high (a i : Nat) (ha : a < 65536) (hi : 16 ≤ i) : bitOf a i = 0 := by
  unfold bitOf
  have : 2 ^ 16 ≤ 2 ^ i := Nat.pow_le_pow_right (by omega) hi
  rw [Nat.div_eq_of_lt (by omega)]
theorem bit_shl (a b i : Nat) (hi : i < 16) : bitOf (a * 2 ^ b % 65536) i = if b ≤ i then bitOf a (i - b) else 0 := by
  rw [bit_if, bit_if, show (65536 : Nat) = 2 ^ 16 from rfl, Nat.testBit_mod_two_pow, Nat.testBit_mul_two_pow]
  by_cases h : b ≤ i
  · simp [hi, h]
  · simp [h]
theorem bit_shr (a b i : Nat) : bitOf (a / 2 ^ b) i = bitOf a (i + b) := by
  unfold bitOf
  rw [Nat.div_div_eq_div_mul, ← Nat.pow_add, Nat.add_comm]
end Go.Proofs.Ytfdcgmcinkdlmaa.Num
