/-
  What cell answers, plainly: rings, divisions, turns. No conditions but bounds.
-/
import Derived.Test.YtfdcgmcinkdlmaaCell6
namespace Go.Proofs.Ytfdcgmcinkdlmaa.Cell
open Go.RowKit Go.Proofs.Ytfdcgmcinkdlmaa.W Go.Proofs.Ytfdcgmcinkdlmaa.Num

/-- how many values a whole kind has -/
def ofK (k : Int) : Int := if k = 2 then 65536 else 4294967296
theorem wrap_congr {k n m : Int} (hk : k = 2 ∨ k = 3) (h : n % ofK k = m % ofK k) : wrapF k n = wrapF k m := by
  rcases hk with rfl | rfl
  · simp [ofK] at h
    simp [wrapF]
    omega
  · simp [ofK] at h
    simp [wrapF]
    omega
theorem wrap_mod (k n : Int) (hk : k = 2 ∨ k = 3) : wrapF k n % ofK k = n % ofK k := by
  rcases hk with rfl | rfl
  · simp [ofK, wrapF]
    try omega
  · simp [ofK, wrapF]
    try omega
theorem wrap64_mod (k n : Int) (hk : k = 2 ∨ k = 3) : wrap64 n % ofK k = n % ofK k := by
  rcases hk with rfl | rfl
  · simp [ofK, wrap64]
    try omega
  · simp [ofK, wrap64]
    try omega
theorem wrap_wrap (k n : Int) (hk : k = 2 ∨ k = 3) : wrapF k (wrapF k n) = wrapF k n := wrap_congr hk (wrap_mod k n hk)
theorem fits_wrap (k n : Int) (hk : k = 2 ∨ k = 3) : fitsF k (wrapF k n) = true := by
  rcases hk with rfl | rfl
  · simp [fitsF, wrapF]
    omega
  · simp [fitsF, wrapF]
    omega
theorem do_add {k : Int} (a b : Int) (hk : k = 2 ∨ k = 3) : doF 1 k a b = (wrapF k (wrapF k a + wrapF k b), false) := by
  rcases hk with rfl | rfl <;> simp [doF, resultF, secondF, countingB, rawF, reckonF]
theorem do_sub {k : Int} (a b : Int) (hk : k = 2 ∨ k = 3) : doF 2 k a b = (wrapF k (wrapF k a - wrapF k b), false) := by
  rcases hk with rfl | rfl <;> simp [doF, resultF, secondF, countingB, rawF, reckonF]
theorem do_mul {k : Int} (a b : Int) (hk : k = 2 ∨ k = 3) : doF 3 k a b = (wrapF k (wrap64 (wrapF k a * wrapF k b)), false) := by
  rcases hk with rfl | rfl <;> simp [doF, resultF, secondF, signedB, rawF, reckonF]
theorem do_div {k : Int} (a b : Int) (hk : k = 2 ∨ k = 3) : doF 4 k a b = if wrapF k b = 0 then (0, true) else (wrapF k ((wrapF k a).tdiv (wrapF k b)), false) := by
  rcases hk with rfl | rfl <;> simp [doF, resultF, secondF, signedB, rawF, reckonF]
theorem do_mod {k : Int} (a b : Int) (hk : k = 2 ∨ k = 3) : doF 5 k a b = if wrapF k b = 0 then (0, true) else (wrapF k ((wrapF k a).tmod (wrapF k b)), false) := by
  rcases hk with rfl | rfl <;> simp [doF, resultF, secondF, signedB, rawF, reckonF]

theorem ring_add {k : Int} (a b : Int) (hk : k = 2 ∨ k = 3) : doF 1 k a b = (wrapF k (wrap64 (a + b)), false) := by
  rw [do_add a b hk]
  congr 1
  refine wrap_congr hk ?_
  rw [wrap64_mod _ _ hk, Int.add_emod, wrap_mod _ _ hk, wrap_mod _ _ hk, ← Int.add_emod]
theorem ring_sub {k : Int} (a b : Int) (hk : k = 2 ∨ k = 3) : doF 2 k a b = (wrapF k (wrap64 (a - b)), false) := by
  rw [do_sub a b hk]
  congr 1
  refine wrap_congr hk ?_
  rw [wrap64_mod _ _ hk, Int.sub_emod, wrap_mod _ _ hk, wrap_mod _ _ hk, ← Int.sub_emod]
theorem ring_mul {k : Int} (a b : Int) (hk : k = 2 ∨ k = 3) : doF 3 k a b = (wrapF k (wrap64 (a * b)), false) := by
  rw [do_mul a b hk]
  congr 1
  refine wrap_congr hk ?_
  rw [wrap64_mod _ _ hk, wrap64_mod _ _ hk, Int.mul_emod, wrap_mod _ _ hk, wrap_mod _ _ hk, ← Int.mul_emod]
/-- the quotient times b and the remainder -/
theorem div_back {k : Int} (a b : Int) (hk : k = 2 ∨ k = 3) :
    wrapF k (wrapF k (wrap64 (wrapF k (wrapF k ((wrapF k a).tdiv (wrapF k b))) * wrapF k b)) + wrapF k (wrapF k ((wrapF k a).tmod (wrapF k b)))) = wrapF k a := by
  rw [← wrap_wrap k a hk]
  refine wrap_congr hk ?_
  have he := Int.mul_tdiv_add_tmod (wrapF k (wrapF k a)) (wrapF k b)
  rw [wrap_wrap k a hk] at he ⊢
  rw [Int.mul_comm] at he
  generalize wrapF k b = B at *
  generalize wrapF k a = A at *
  generalize hq : A.tdiv B = q at *
  generalize hr : A.tmod B = r at *
  have h1 : wrapF k (wrap64 (wrapF k (wrapF k q) * B)) % ofK k = (q * B) % ofK k := by
    rw [wrap_mod _ _ hk, wrap64_mod _ _ hk, Int.mul_emod, wrap_mod _ _ hk, wrap_mod _ _ hk, ← Int.mul_emod]
  have h2 : wrapF k (wrapF k r) % ofK k = r % ofK k := by rw [wrap_mod _ _ hk, wrap_mod _ _ hk]
  rw [Int.add_emod, h1, h2, ← Int.add_emod, he]

/-- the low bits of any int -/
theorem and_low (n : Int) (m : Nat) (hm : m ≤ 32) : bits .and .i64 n ((2 ^ m - 1 : Nat) : Int) = n % ((2 ^ m : Nat) : Int) := by
  have hp : 2 ^ m ≤ 2 ^ 32 := Nat.pow_le_pow_right (by omega) hm
  have hp0 : 0 < 2 ^ m := Nat.two_pow_pos m
  show IntKind.i64.wrap ((BitVec.ofInt 64 n &&& BitVec.ofInt 64 ((2 ^ m - 1 : Nat) : Int)).toNat : Int) = _
  have h : (BitVec.ofInt 64 n &&& BitVec.ofInt 64 ((2 ^ m - 1 : Nat) : Int)).toNat = (BitVec.ofInt 64 n).toNat % 2 ^ m := by
    rw [BitVec.toNat_and, ofInt_i64 _ (by omega)]
    exact Nat.and_two_pow_sub_one_eq_mod _ _
  have hlt : (BitVec.ofInt 64 n).toNat % 2 ^ m < 2 ^ m := Nat.mod_lt _ hp0
  rw [h, wrap_i64_nat _ (by omega), BitVec.toNat_ofInt, Int.natCast_emod, Int.toNat_of_nonneg (by omega)]
  exact Int.emod_emod_of_dvd n (by exact_mod_cast Nat.pow_dvd_pow 2 (show m ≤ 64 by omega))
theorem word_in (a : Int) : wrapF 4 a = ((a % 65536).toNat : Int) := by
  simp [wrapF]
  omega
theorem do_rol (a by_ : Int) : doF 17 4 a by_ = ((rotN (a % 65536).toNat ((wrapF 2 by_).toNat % 16) : Int), false) := by
  have hlt := rot_lt ((wrapF 2 by_).toNat % 16) (show (a % 65536).toNat < 65536 by omega)
  simp only [doF, resultF, secondF, rawF, shiftF]
  simp [wrapF] at hlt ⊢
  omega
theorem do_ror (a by_ : Int) : doF 18 4 a by_ = ((rotN (a % 65536).toNat ((16 - (wrapF 2 by_).toNat % 16) % 16) : Int), false) := by
  have hlt := rot_lt ((16 - (wrapF 2 by_).toNat % 16) % 16) (show (a % 65536).toNat < 65536 by omega)
  simp only [doF, resultF, secondF, rawF, shiftF]
  simp [wrapF] at hlt ⊢
  omega
theorem eq_bits {x y : Nat} (hx : x < 65536) (hy : y < 65536) (h : ∀ i, i < 16 → bitOf x i = bitOf y i) : x = y := by
  have hk : ∀ i, i ≤ 16 → x % 2 ^ i = y % 2 ^ i := by
    intro i
    induction i with
    | zero => intro _; simp [Nat.mod_one]
    | succ i ih =>
      intro hi
      rw [mod_next, mod_next, ih (by omega), h i (by omega)]
  have := hk 16 (Nat.le_refl _)
  rwa [Nat.mod_eq_of_lt hx, Nat.mod_eq_of_lt hy] at this
/-- what goes round comes back -/
theorem rot_back (x r : Nat) (hx : x < 65536) (hr : r < 16) : rotN (rotN x r) ((16 - r) % 16) = x := by
  have h1 := rot_lt r hx
  refine eq_bits (rot_lt _ h1) hx fun i hi => ?_
  rw [rot_bit _ _ i h1 (by omega) hi, rot_bit x r _ hx hr (by omega)]
  congr 1
  omega
theorem do_up (a : Int) : doF 15 4 a 4 = ((((a % 65536).toNat * 16 % 65536 : Nat) : Int), false) := by
  have e : shiftF 15 (a % 65536).toNat 4 = (a % 65536).toNat * 16 % 65536 := rfl
  simp only [doF, resultF, secondF, rawF]
  simp [wrapF, e]
  try omega
theorem do_down (x : Nat) (hx : x < 65536) : doF 16 4 x 4 = (((x / 16 : Nat) : Int), false) := by
  have e : shiftF 16 ((x : Int) % 65536).toNat 4 = x / 16 := by
    rw [show ((x : Int) % 65536).toNat = x from by omega]
    rfl
  simp only [doF, resultF, secondF, rawF]
  simp [wrapF, e]
  omega
theorem do_low (a : Int) : doF 6 4 a 4095 = ((((a % 65536).toNat % 4096 : Nat) : Int), false) := by
  have e := and_low (a % 65536) 12 (by omega)
  simp only [doF, resultF, secondF, rawF, reckonF]
  simp [wrapF, bitlikeB] at e ⊢
  rw [e]
  omega
theorem fits_low (a : Int) : fitsF 4 (bits .and .i64 a 65535) = true := by
  have e := and_low a 16 (by omega)
  simp at e
  rw [e]
  simp [fitsF]
  omega
end Go.Proofs.Ytfdcgmcinkdlmaa.Cell
