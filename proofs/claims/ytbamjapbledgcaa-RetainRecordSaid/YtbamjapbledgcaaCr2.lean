/-
  The reference's CRC16 answers the same sum as bus's. Conditions: the bytes read; their number is a length.
-/
import Derived.Test.YtbamjapbledgcaaCr1
import Derived.Test.YtbamjapbledgcaaNum
namespace Go.Proofs.Ytbamjapbledgcaa.Ret
open Go.RowKit Go.Proofs.Ytbamjapbledgcaa.W Go.Proofs.Ytbamjapbledgcaa.Ints Go.Proofs.Ytbamjapbledgcaa.Num Go.Proofs.Ytbamjapbledgcaa.Byt

theorem xor_mod2 (a b : Nat) : (a ^^^ b) % 2 = (a + b) % 2 := by
  have := Nat.xor_mod_two_eq_one (a := a) (b := b)
  rcases Nat.mod_two_eq_zero_or_one a with ha | ha <;> rcases Nat.mod_two_eq_zero_or_one b with hb | hb <;> rcases Nat.mod_two_eq_zero_or_one (a ^^^ b) with hc | hc <;> omega
theorem par {v T y : Nat} (h : v = T ^^^ y) : (v + y) % 2 = T % 2 := by
  have e : T = v ^^^ y := by rw [h, Nat.xor_assoc, Nat.xor_self, Nat.xor_zero]
  rw [e, xor_mod2]
theorem stepR {v T y : Nat} (h : v = T ^^^ y) : crcBit T ^^^ y / 2 = if T % 2 = 1 then v / 2 ^^^ 3988292384 else v / 2 := by
  have e : v / 2 = T / 2 ^^^ y / 2 := by rw [h]; exact Nat.xor_div_two
  unfold crcBit
  split
  · rw [e, Nat.xor_assoc, Nat.xor_assoc, Nat.xor_comm 3988292384]
  · rw [e]
set_option maxHeartbeats 1600000 in
theorem CRC_any (A : Option Addr) (n c : Nat) (bs : List UInt8) (w : World) (hr : Rd w 1 A n (byts bs)) (hn : n ≤ maxLen) :
    Calls Try.prog 10 #[.slice A n c] w fun e w' => e = .returned (.int .i64 (sumB bs : Int)) ∧ w = w' := by
  unfold maxLen at hn
  have HL := Lib.hid (brd_len hr)
  have HR := Lib.hid hr
  clear hr
  go_enter Try.func10, Try.ntmps10
  go_wp2
  go_loop [3, 4] (fun s i => ∃ k : Nat, k ≤ n ∧ i = .int .i64 k ∧ s = .int .i64 (crc (bs.take k) : Int)) (fun _ i => n - (intOf i).toNat)
  case atStart => exact ⟨0, Nat.zero_le _, rfl, rfl⟩
  case round =>
    obtain ⟨k, hk, rfl, rfl⟩ := hrel
    have hs := crc_lt (bs.take k)
    by_cases hlt : k < n
    · have h1 := crc_snoc (bs.take k) (bs.getD k 0)
      rw [← take_snoc' bs k (by rw [HL.out]; exact hlt)] at h1
      have HC := Lib.hid h1
      clear h1
      obtain ⟨b, o, rfl, hc⟩ := brd_at HR.out (by omega)
      have hcell := hc k hlt
      clear hc
      generalize hx : bs.getD k 0 = x at hcell HC
      have hxl := x.toNat_lt
      generalize hr0 : crc (bs.take k) = r at hs HC
      clear hx hr0
      go_wp2
      go_loop [3, 5, 6] (fun s i _ => ∃ j : Nat, j ≤ 8 ∧ i = .int .i64 j ∧ ∃ v : Nat, s = .int .i64 (v : Int) ∧ Hid (v = crcBits j (r ^^^ x.toNat) ^^^ x.toNat / 2 ^ j)) (fun _ i _ => 8 - (intOf i).toNat)
      case atStart => exact ⟨0, Nat.zero_le _, rfl, r, rfl, by simp [Hid, crcBits, Nat.xor_assoc]⟩
      case round =>
        obtain ⟨j, hj, rfl, v, rfl, HV⟩ := hrel
        have hq := crcBits_lt j (xor_lt32 hs (show x.toNat < 4294967296 by omega))
        have hy : x.toNat / 2 ^ j < 256 := Nat.lt_of_le_of_lt (Nat.div_le_self _ _) hxl
        have hvl : v < 4294967296 := by rw [HV.out]; exact xor_lt32 hq (by omega)
        by_cases hlt8 : j < 8
        · have h2 := crcBits_snoc j (r ^^^ x.toNat)
          have hd : x.toNat / 2 ^ (j + 1) = x.toNat / 2 ^ j / 2 := by rw [Nat.pow_succ, Nat.div_div_eq_div_mul]
          have hcast : ((x.toNat : Int)) / 2 ^ j = ((x.toNat / 2 ^ j : Nat) : Int) := by simp
          have hv2 := HV.out
          generalize crcBits j (r ^^^ x.toNat) = T at hq h2 hv2
          generalize x.toNat / 2 ^ j = y at hy hd hcast hv2
          have hpar : (v + y) % 2 = T % 2 := par hv2
          have hstep : crcBit T ^^^ y / 2 = if T % 2 = 1 then v / 2 ^^^ 3988292384 else v / 2 := stepR hv2
          have ea : bits .and .i64 ((x.toNat : Int) / 2 ^ j) 1 = ((y % 2 : Nat) : Int) := by rw [hcast, and_one]; simp
          have eb : bits .and .i64 (v : Int) 1 = ((v % 2 : Nat) : Int) := by rw [and_one]; simp
          have ec : bits .xor .i64 ((y % 2 : Nat) : Int) ((v % 2 : Nat) : Int) = ((T % 2 : Nat) : Int) := by
            rw [i64_xor_nat _ _ (by omega) (by omega)]
            congr 1
            rcases Nat.mod_two_eq_zero_or_one y with h | h <;> rcases Nat.mod_two_eq_zero_or_one v with h' | h' <;> rw [h, h'] <;> simp <;> omega
          have ed : bits .xor .i64 (bits .and .i64 ((x.toNat : Int) / 2 ^ j) 1) (bits .and .i64 (v : Int) 1) = ((T % 2 : Nat) : Int) := by rw [ea, eb, ec]
          have e3 : bits .xor .i64 ((v : Int) / 2) 3988292384 = ((v / 2 ^^^ 3988292384 : Nat) : Int) := by
            have := i64_xor_nat (v / 2) 3988292384 (by omega) (by omega)
            simpa using this
          have H2 := Lib.hid h2
          have HD := Lib.hid hd
          have HST := Lib.hid hstep
          clear h2 hd hstep hpar ea eb ec hcast hv2
          by_cases hb : T % 2 = 1
          · have hb' : (((T % 2 : Nat) : Int) == 1) = true := by simp; omega
            have H3 : Hid (v / 2 ^^^ 3988292384 = crcBits (j + 1) (r ^^^ x.toNat) ^^^ x.toNat / 2 ^ (j + 1)) := by
              have h := HST.out
              rw [if_pos hb] at h
              show _ = _
              rw [← h, H2.out, HD.out]
            clear hb
            go_wp2
            go_round
            case rel => exact ⟨j + 1, by omega, by go_num, v / 2 ^^^ 3988292384, rfl, H3⟩
            case measure => simp [intOf]; omega
          · have hb' : (((T % 2 : Nat) : Int) == 1) = false := by simp; omega
            have H3 : Hid (v / 2 = crcBits (j + 1) (r ^^^ x.toNat) ^^^ x.toNat / 2 ^ (j + 1)) := by
              have h := HST.out
              rw [if_neg hb] at h
              show _ = _
              rw [← h, H2.out, HD.out]
            clear hb
            go_wp2
            go_round
            case rel => exact ⟨j + 1, by omega, by go_num, v / 2, by simp, H3⟩
            case measure => simp [intOf]; omega
        · have hj' : j = 8 := by omega
          have H3 : Hid (v = crc (bs.take (k + 1))) := by
            show _ = _
            rw [HC.out, HV.out, hj', Nat.div_eq_of_lt (by omega : x.toNat < 2 ^ 8), Nat.xor_zero]
            rfl
          clear hj'
          go_wp2
          go_round
          case rel => exact ⟨k + 1, by omega, by go_num, by rw [H3.out]⟩
          case measure => simp [intOf]; omega
    · have hk' : k = n := by omega
      subst hk'
      go_wp2
      go_ret
      rw [List.take_of_length_le (by rw [HL.out]; omega)]
      refine ⟨ret_int ?_, rfl⟩
      have := crc_lt bs
      unfold sumB
      omega
end Go.Proofs.Ytbamjapbledgcaa.Ret
