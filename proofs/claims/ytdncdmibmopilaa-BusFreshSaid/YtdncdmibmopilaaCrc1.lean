/-
  The sixteen-bit sum of bytes: bus's sum and the reference's CRC16 are one. Conditions: the bytes read; their number is a length.
-/
import Derived.Test.YtdncdmibmopilaaByt
import Derived.Laws.BitsAllLaws
import Derived.Outline
namespace Go.Proofs.Ytdncdmibmopilaa.Bus
open Go.RowKit Go.Proofs.Ytdncdmibmopilaa.W Go.Proofs.Ytdncdmibmopilaa.Ints Go.Proofs.Ytdncdmibmopilaa.Byt

def crcBit (r : Nat) : Nat := if r % 2 = 1 then (r / 2) ^^^ 40961 else r / 2
def crcBits : Nat → Nat → Nat
  | 0, r => r
  | k + 1, r => crcBits k (crcBit r)
def crcByte (r : Nat) (b : UInt8) : Nat := crcBits 8 (r ^^^ b.toNat)
def crc (bs : List UInt8) : Nat := bs.foldl crcByte 65535

theorem xor_lt16 {a b : Nat} (ha : a < 65536) (hb : b < 65536) : a ^^^ b < 65536 := Nat.xor_lt_two_pow (n := 16) ha hb
theorem crcBit_lt {r : Nat} (h : r < 65536) : crcBit r < 65536 := by
  unfold crcBit
  split
  · exact xor_lt16 (by omega) (by omega)
  · omega
theorem crcBits_lt (k : Nat) : ∀ {r : Nat}, r < 65536 → crcBits k r < 65536 := by
  induction k with
  | zero => intro r h; exact h
  | succ k ih => intro r h; exact ih (crcBit_lt h)
theorem crcBits_snoc (k : Nat) : ∀ r : Nat, crcBits (k + 1) r = crcBit (crcBits k r) := by
  induction k with
  | zero => intro r; rfl
  | succ k ih => intro r; exact ih (crcBit r)
theorem crcByte_lt {r : Nat} (b : UInt8) (h : r < 65536) : crcByte r b < 65536 := crcBits_lt 8 (xor_lt16 h (by have := b.toNat_lt; omega))
theorem crc_fold_lt (bs : List UInt8) : ∀ {r : Nat}, r < 65536 → bs.foldl crcByte r < 65536 := by
  induction bs with
  | nil => intro r h; exact h
  | cons b bs ih => intro r h; exact ih (crcByte_lt b h)
theorem crc_lt (bs : List UInt8) : crc bs < 65536 := crc_fold_lt bs (by omega)
theorem crc_snoc (bs : List UInt8) (b : UInt8) : crc (bs ++ [b]) = crcByte (crc bs) b := by simp [crc]
theorem take_snoc' (bs : List UInt8) (k : Nat) (h : k < bs.length) : bs.take (k + 1) = bs.take k ++ [bs.getD k 0] := by
  rw [List.take_succ_eq_append_getElem h]
  simp [List.getD_eq_getElem?_getD, List.getElem?_eq_getElem h]

theorem and1 {t : Nat} (h : t < 65536) : bits .and .u16 (t : Int) 1 = ((t % 2 : Nat) : Int) := by
  have := u16_and_nat t 1 h (by omega)
  rw [nat_mask1] at this
  simpa using this

theorem xor_a001 {t : Nat} (h : t < 65536) : bits .xor .u16 ((t : Int) / 2) 40961 = ((t / 2 ^^^ 40961 : Nat) : Int) := by
  have := u16_xor_nat (t / 2) 40961 (by omega) (by omega)
  simpa using this

set_option maxHeartbeats 1600000 in
theorem sum_any (A : Option Addr) (n c : Nat) (bs : List UInt8) (w : World) (hr : Rd w 1 A n (byts bs)) (hn : n ≤ maxLen) :
    Calls Try.prog 39 #[.slice A n c] w fun e w' => e = .returned (.int .u16 (crc bs : Int)) ∧ w = w' := by
  unfold maxLen at hn
  have HL := Lib.hid (brd_len hr)
  have HR := Lib.hid hr
  clear hr
  go_enter Try.func39, Try.ntmps39
  go_wp2
  go_loop [3, 9] (fun s i => ∃ k : Nat, k ≤ n ∧ i = .int .i64 k ∧ s = .int .u16 (crc (bs.take k) : Int)) (fun _ i => n - (intOf i).toNat)
  case atStart => exact ⟨0, Nat.zero_le _, rfl, rfl⟩
  case round =>
    obtain ⟨k, hk, rfl, rfl⟩ := hrel
    have hs := crc_lt (bs.take k)
    by_cases hlt : k < n
    · have h1 := crc_snoc (bs.take k) (bs.getD k 0)
      rw [← take_snoc' bs k (by rw [HL.out]; exact hlt)] at h1
      have HC := Lib.hid h1
      clear h1
      obtain ⟨b, o, rfl, hc⟩ := brd_at HR.out (by omega)
      have hcell := hc k hlt
      clear hc
      generalize hx : bs.getD k 0 = x at hcell HC
      have hxl := x.toNat_lt
      generalize hr0 : crc (bs.take k) = r at hs HC
      clear hx hr0
      have e1 := u16_xor_nat r x.toNat hs (by omega)
      go_wp2
      go_loop [3, 6, 17] (fun s _ i => ∃ j : Nat, j ≤ 8 ∧ i = .int .i64 j ∧ s = .int .u16 (crcBits j (r ^^^ x.toNat) : Int)) (fun _ _ i => 8 - (intOf i).toNat)
      case atStart => exact ⟨0, Nat.zero_le _, rfl, rfl⟩
      case round =>
        obtain ⟨j, hj, rfl, rfl⟩ := hrel
        have hq := crcBits_lt j (xor_lt16 hs (show x.toNat < 65536 by omega))
        by_cases hlt8 : j < 8
        · have h2 := crcBits_snoc j (r ^^^ x.toNat)
          generalize crcBits j (r ^^^ x.toNat) = t at hq h2
          have H2 := Lib.hid h2
          clear h2
          have e2 := and1 hq
          have e3 := xor_a001 hq
          by_cases hb : t % 2 = 1
          · have hb' : (((t % 2 : Nat) : Int) == 1) = true := by simp; omega
            have H3 : Hid (((t / 2 ^^^ 40961 : Nat) : Int) = ((crcBits (j + 1) (r ^^^ x.toNat) : Nat) : Int)) := by rw [H2.out]; simp [Hid, crcBit, hb]
            clear hb
            go_wp2
            go_round
            case rel => exact ⟨j + 1, by omega, by go_num, by rw [H3.out]⟩
            case measure => simp [intOf]; omega
          · have hb' : (((t % 2 : Nat) : Int) == 1) = false := by simp; omega
            have H3 : Hid ((t : Int) / 2 = ((crcBits (j + 1) (r ^^^ x.toNat) : Nat) : Int)) := by rw [H2.out]; simp [Hid, crcBit, hb]
            clear hb
            go_wp2
            go_round
            case rel => exact ⟨j + 1, by omega, by go_num, by rw [H3.out]⟩
            case measure => simp [intOf]; omega
        · have hj' : j = 8 := by omega
          subst hj'
          have H3 : Hid (crcBits 8 (r ^^^ x.toNat) = crc (bs.take (k + 1))) := HC.out.symm
          go_wp2
          go_round
          case rel => exact ⟨k + 1, by omega, by go_num, by rw [H3.out]⟩
          case measure => simp [intOf]; omega
    · have hk' : k = n := by omega
      subst hk'
      go_wp2
      go_ret
      rw [List.take_of_length_le (by rw [HL.out]; omega)]
      exact ⟨rfl, rfl⟩
end Go.Proofs.Ytdncdmibmopilaa.Bus
