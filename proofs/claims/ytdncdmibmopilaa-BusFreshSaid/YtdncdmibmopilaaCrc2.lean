/-
  The reference's CRC16 answers the same sum as bus's. Conditions: the bytes read; their number is a length.
-/
import Derived.Test.YtdncdmibmopilaaCrc1
import Derived.Test.YtdncdmibmopilaaNum
namespace Go.Proofs.Ytdncdmibmopilaa.Bus
open Go.RowKit Go.Proofs.Ytdncdmibmopilaa.W Go.Proofs.Ytdncdmibmopilaa.Ints Go.Proofs.Ytdncdmibmopilaa.Num Go.Proofs.Ytdncdmibmopilaa.Byt

set_option maxHeartbeats 1600000 in
theorem CRC16_any (A : Option Addr) (n c : Nat) (bs : List UInt8) (w : World) (hr : Rd w 1 A n (byts bs)) (hn : n ≤ maxLen) :
    Calls Try.prog 37 #[.slice A n c] w fun e w' => e = .returned (.int .i64 (crc bs : Int)) ∧ w = w' := by
  unfold maxLen at hn
  have HL := Lib.hid (brd_len hr)
  have HR := Lib.hid hr
  clear hr
  go_enter Try.func37, Try.ntmps37
  go_wp2
  go_loop [3, 4] (fun s i => ∃ k : Nat, k ≤ n ∧ i = .int .i64 k ∧ s = .int .i64 (crc (bs.take k) : Int)) (fun _ i => n - (intOf i).toNat)
  case atStart => exact ⟨0, Nat.zero_le _, rfl, rfl⟩
  case round =>
    obtain ⟨k, hk, rfl, rfl⟩ := hrel
    have hs := crc_lt (bs.take k)
    by_cases hlt : k < n
    · have h1 := crc_snoc (bs.take k) (bs.getD k 0)
      rw [← take_snoc' bs k (by rw [HL.out]; exact hlt)] at h1
      have HC := Lib.hid h1
      clear h1
      obtain ⟨b, o, rfl, hc⟩ := brd_at HR.out (by omega)
      have hcell := hc k hlt
      clear hc
      generalize hx : bs.getD k 0 = x at hcell HC
      have hxl := x.toNat_lt
      generalize hr0 : crc (bs.take k) = r at hs HC
      clear hx hr0
      have e1 := i64_xor_nat r x.toNat (by omega) (by omega)
      go_wp2
      go_loop [3, 6, 5] (fun s _ i => ∃ j : Nat, j ≤ 8 ∧ i = .int .i64 j ∧ s = .int .i64 (crcBits j (r ^^^ x.toNat) : Int)) (fun _ _ i => 8 - (intOf i).toNat)
      case atStart => exact ⟨0, Nat.zero_le _, rfl, rfl⟩
      case round =>
        obtain ⟨j, hj, rfl, rfl⟩ := hrel
        have hq := crcBits_lt j (xor_lt16 hs (show x.toNat < 65536 by omega))
        by_cases hlt8 : j < 8
        · have h2 := crcBits_snoc j (r ^^^ x.toNat)
          generalize crcBits j (r ^^^ x.toNat) = t at hq h2
          have H2 := Lib.hid h2
          clear h2
          have e3 : bits .xor .i64 ((t : Int) / 2) 40961 = ((t / 2 ^^^ 40961 : Nat) : Int) := by
            have := i64_xor_nat (t / 2) 40961 (by omega) (by omega)
            simpa using this
          by_cases hb : t % 2 = 1
          · have hb' : ((t : Int) % 2 == 1) = true := by simp; omega
            have H3 : Hid (((t / 2 ^^^ 40961 : Nat) : Int) = ((crcBits (j + 1) (r ^^^ x.toNat) : Nat) : Int)) := by rw [H2.out]; simp [Hid, crcBit, hb]
            clear hb
            go_wp2
            go_round
            case rel => exact ⟨j + 1, by omega, by go_num, by rw [H3.out]⟩
            case measure => simp [intOf]; omega
          · have hb' : ((t : Int) % 2 == 1) = false := by simp; omega
            have H3 : Hid ((t : Int) / 2 = ((crcBits (j + 1) (r ^^^ x.toNat) : Nat) : Int)) := by rw [H2.out]; simp [Hid, crcBit, hb]
            clear hb
            go_wp2
            go_round
            case rel => exact ⟨j + 1, by omega, by go_num, by rw [H3.out]⟩
            case measure => simp [intOf]; omega
        · have hj' : j = 8 := by omega
          subst hj'
          have H3 : Hid (crcBits 8 (r ^^^ x.toNat) = crc (bs.take (k + 1))) := HC.out.symm
          go_wp2
          go_round
          case rel => exact ⟨k + 1, by omega, by go_num, by rw [H3.out]⟩
          case measure => simp [intOf]; omega
    · have hk' : k = n := by omega
      subst hk'
      go_wp2
      go_ret
      rw [List.take_of_length_le (by rw [HL.out]; omega)]
      exact ⟨rfl, rfl⟩
end Go.Proofs.Ytdncdmibmopilaa.Bus
