/-
  A frame that is taken is not taken again when bits within 16 neighbouring ones of it are turned. No conditions: plain laws.
-/
import Derived.Test.YtdncdmibmopilaaOpen3
import Derived.Test.YtdncdmibmopilaaFrm2
namespace Go.Proofs.Ytdncdmibmopilaa.Bus
open Go.Proofs.Ytdncdmibmopilaa.Byt

theorem crcBit_xor (a b : Nat) : crcBit (a ^^^ b) = crcBit a ^^^ crcBit b := by
  unfold crcBit
  have h2 : (a ^^^ b) / 2 = a / 2 ^^^ b / 2 := Nat.xor_div_two
  have hm : (a ^^^ b) % 2 = (a + b) % 2 := by
    have := Nat.xor_mod_two_eq_one (a := a) (b := b)
    rcases Nat.mod_two_eq_zero_or_one a with ha | ha <;> rcases Nat.mod_two_eq_zero_or_one b with hb | hb <;> rcases Nat.mod_two_eq_zero_or_one (a ^^^ b) with hc | hc <;> omega
  rw [h2, hm]
  rcases Nat.mod_two_eq_zero_or_one a with ha | ha <;> rcases Nat.mod_two_eq_zero_or_one b with hb | hb
  · rw [if_neg (by omega), if_neg (by omega), if_neg (by omega)]
  · rw [if_pos (by omega), if_neg (by omega), if_pos (by omega), Nat.xor_assoc]
  · rw [if_pos (by omega), if_pos (by omega), if_neg (by omega), Nat.xor_assoc, Nat.xor_assoc, Nat.xor_comm (b / 2)]
  · rw [if_neg (by omega), if_pos (by omega), if_pos (by omega), ← Nat.xor_assoc, Nat.xor_assoc (a / 2), Nat.xor_comm 40961 (b / 2), ← Nat.xor_assoc, Nat.xor_assoc (a / 2 ^^^ b / 2), Nat.xor_self, Nat.xor_zero]
theorem crcBits_xor (k : Nat) : ∀ a b : Nat, crcBits k (a ^^^ b) = crcBits k a ^^^ crcBits k b := by
  induction k with
  | zero => intro a b; rfl
  | succ k ih => intro a b; show crcBits k (crcBit (a ^^^ b)) = _; rw [crcBit_xor, ih]; rfl
theorem crcBits_add (j k : Nat) : ∀ r : Nat, crcBits (j + k) r = crcBits k (crcBits j r) := by
  induction j with
  | zero => intro r; rw [Nat.zero_add]; rfl
  | succ j ih => intro r; rw [Nat.succ_add]; show crcBits (j + k) (crcBit r) = _; rw [ih]; rfl
theorem crcBits_shift (k : Nat) : ∀ r : Nat, crcBits k (r * 2 ^ k) = r := by
  induction k with
  | zero => intro r; show r * 2 ^ 0 = r; omega
  | succ k ih =>
    intro r
    show crcBits k (crcBit (r * 2 ^ (k + 1))) = r
    have : crcBit (r * 2 ^ (k + 1)) = r * 2 ^ k := by
      unfold crcBit
      rw [Nat.pow_succ, ← Nat.mul_assoc, if_neg (by omega), Nat.mul_div_cancel _ (by omega)]
    rw [this, ih]
theorem crcBit_zero {r : Nat} (h : r < 65536) (h0 : crcBit r = 0) : r = 0 := by
  unfold crcBit at h0
  split at h0
  · have h1 : r / 2 = 40961 := by
      have := congrArg (· ^^^ 40961) h0
      simp only [Nat.xor_assoc, Nat.xor_self, Nat.xor_zero, Nat.zero_xor] at this
      exact this
    omega
  · omega
theorem crcBits_zero (k : Nat) : ∀ {r : Nat}, r < 65536 → crcBits k r = 0 → r = 0 := by
  induction k with
  | zero => intro r _ h; exact h
  | succ k ih => intro r h h0; exact crcBit_zero h (ih (crcBit_lt h) h0)

/-- a row of bytes as one number, the first one lowest -/
def numB : List UInt8 → Nat
  | [] => 0
  | b :: bs => b.toNat + 256 * numB bs
theorem join8 (b : UInt8) (r : Nat) : b.toNat + 256 * r = b.toNat ^^^ r * 2 ^ 8 := by
  apply Nat.eq_of_testBit_eq
  intro i
  rw [show b.toNat + 256 * r = 2 ^ 8 * r + b.toNat by omega, Nat.testBit_two_pow_mul_add _ b.toNat_lt, Nat.testBit_xor, show r * 2 ^ 8 = 2 ^ 8 * r by omega, Nat.testBit_two_pow_mul]
  by_cases h : i < 8
  · have : ¬ 8 ≤ i := by omega
    simp [h, this]
  · have hb : b.toNat.testBit i = false := Nat.testBit_lt_two_pow (Nat.lt_of_lt_of_le b.toNat_lt (Nat.pow_le_pow_right (by omega) (by omega)))
    simp [h, hb]
    omega
theorem fold_num (bs : List UInt8) : ∀ r : Nat, bs.foldl crcByte r = crcBits (8 * bs.length) (r ^^^ numB bs) := by
  induction bs with
  | nil => intro r; show r = crcBits 0 (r ^^^ 0); rw [Nat.xor_zero]; rfl
  | cons b bs ih =>
    intro r
    show bs.foldl crcByte (crcByte r b) = _
    rw [ih]
    show crcBits (8 * bs.length) (crcBits 8 (r ^^^ b.toNat) ^^^ numB bs) = crcBits (8 * (bs.length + 1)) (r ^^^ (b.toNat + 256 * numB bs))
    rw [join8, ← Nat.xor_assoc, show 8 * (bs.length + 1) = 8 + 8 * bs.length by omega, crcBits_add, crcBits_xor 8 (r ^^^ b.toNat), crcBits_shift]
theorem numB_append (cs bs : List UInt8) : numB (cs ++ bs) = numB cs ^^^ numB bs * 2 ^ (8 * cs.length) := by
  induction cs with
  | nil => simp [numB]
  | cons a cs ih =>
    show a.toNat + 256 * numB (cs ++ bs) = (a.toNat + 256 * numB cs) ^^^ numB bs * 2 ^ (8 * (cs.length + 1))
    rw [join8, join8, ih, Nat.xor_assoc]
    congr 1
    rw [show 8 * (cs.length + 1) = 8 * cs.length + 8 by omega, Nat.pow_add, ← Nat.mul_assoc]
    apply Nat.eq_of_testBit_eq
    intro i
    simp only [Nat.testBit_xor, ← Nat.shiftLeft_eq, Nat.testBit_shiftLeft]
    by_cases h : 8 ≤ i <;> simp [h]
/-- a frame whose sum is right -/
theorem sum_right {bs : List UInt8} (hn : 2 ≤ bs.length) (h : ((bAt bs (bs.length - 2) : Int) + 256 * (bAt bs (bs.length - 2 + 1) : Int)) = (crc (bs.take (bs.length - 2)) : Int)) :
    crcBits (8 * bs.length) (65535 ^^^ numB bs) = 0 := by
  have e : bs = bs.take (bs.length - 2) ++ [bs.getD (bs.length - 2) 0, bs.getD (bs.length - 2 + 1) 0] := by
    conv => lhs; rw [← List.take_append_drop (bs.length - 2) bs]
    congr 1
    have hl : (bs.drop (bs.length - 2)).length = 2 := by simp; omega
    apply List.ext_getElem?
    intro i
    rw [List.getElem?_drop]
    match i with
    | 0 => simp [List.getD_eq_getElem?_getD, List.getElem?_eq_getElem (show bs.length - 2 < bs.length by omega)]
    | 1 => simp [List.getD_eq_getElem?_getD, List.getElem?_eq_getElem (show bs.length - 2 + 1 < bs.length by omega)]
    | i + 2 => rw [List.getElem?_eq_none (by omega)]; rfl
  have hc : crc (bs.take (bs.length - 2)) = bAt bs (bs.length - 2) + 256 * bAt bs (bs.length - 2 + 1) := by omega
  generalize hD : bs.take (bs.length - 2) = D at *
  have hDl : D.length = bs.length - 2 := by rw [← hD]; simp
  have hf := fold_num bs 65535
  rw [← hf, e, List.foldl_append]
  show crcByte (crcByte (crc D) _) _ = 0
  rw [hc]
  show [bs.getD (bs.length - 2) 0, bs.getD (bs.length - 2 + 1) 0].foldl crcByte _ = 0
  rw [fold_num]
  have : numB [bs.getD (bs.length - 2) 0, bs.getD (bs.length - 2 + 1) 0] = bAt bs (bs.length - 2) + 256 * bAt bs (bs.length - 2 + 1) := by simp [numB, bAt]
  rw [this, Nat.xor_self]
  exact (rfl : crcBits 16 0 = 0)
/-- what is spoilt within 16 neighbouring bits is not right -/
theorem burst {cs bs : List UInt8} (hl : cs.length = bs.length) (_hn : 2 ≤ bs.length) {m k : Nat} (hm : m < 65536) (hk : k ≤ 8 * bs.length) (he : numB cs = numB bs ^^^ m * 2 ^ k)
    (ha : crcBits (8 * cs.length) (65535 ^^^ numB cs) = 0) (hb : crcBits (8 * bs.length) (65535 ^^^ numB bs) = 0) : m = 0 := by
  rw [he, ← Nat.xor_assoc, crcBits_xor, hl, hb, Nat.zero_xor, show 8 * bs.length = k + (8 * bs.length - k) by omega, crcBits_add, crcBits_shift] at ha
  exact crcBits_zero _ hm ha
end Go.Proofs.Ytdncdmibmopilaa.Bus
