/-
  The reference's Do answers as cell's. Conditions: the numbers are ints.
-/
import Derived.Test.YtfdcgmcinkdlmaaCell5
namespace Go.Proofs.Ytfdcgmcinkdlmaa.Cell
open Go.RowKit Go.Proofs.Ytfdcgmcinkdlmaa.W Go.Proofs.Ytfdcgmcinkdlmaa.Num

theorem not_eq (a : Int) (h1 : -2147483648 ≤ a) (h2 : a ≤ 4294967295) : bits .xor .i64 (-1) a = -a - 1 := by
  show IntKind.i64.wrap ((BitVec.ofInt 64 (-1) ^^^ BitVec.ofInt 64 a).toNat : Int) = _
  have e1 : BitVec.ofInt 64 (-1) = BitVec.allOnes 64 := by decide
  rw [e1, BitVec.allOnes_xor, BitVec.toNat_not, BitVec.toNat_ofInt]
  simp [IntKind.wrap, IntKind.bits, IntKind.signed]
  omega
theorem mod_eq (a b : Int) (h1 : -2147483648 ≤ a) (h2 : a ≤ 4294967295) (h3 : -2147483648 ≤ b) (h4 : b ≤ 4294967295) : wrap64 (a - wrap64 (a.tdiv b * b)) = a.tmod b := by
  have ht := tmod_bd a b h1 h2 h3 h4
  have he := Int.mul_tdiv_add_tmod a b
  rw [Int.mul_comm] at he
  generalize a.tdiv b * b = q at he
  rw [wrap64_in q (by omega) (by omega), wrap64_in _ (by omega) (by omega)]
  omega
set_option maxRecDepth 100000 in
set_option maxHeartbeats 8000000 in
theorem DoR_sh (op k a b R S A B V : Int) (w : World)
    (HR : Hid (resultF op k = R)) (HS : Hid (secondF op k = S)) (HA : Hid (wrapF k a = A)) (HB : Hid (wrapF S b = B)) (HV : Hid (rawF op A B = V)) (h0' : (R == 0) = false)
    (_a1 : -2147483648 ≤ A) (_a2 : A ≤ 4294967295) (_b1 : -2147483648 ≤ B) (_b2 : B ≤ 4294967295) (ho : op = 15 ∨ op = 16 ∨ op = 17 ∨ op = 18) (b3 : -32768 ≤ B) (b4 : B ≤ 32767) (x : Nat) (hx : x < 65536) (hxe : A = (x : Int)) (hv : Hid ((shiftF op x B.toNat : Int) = V)) :
    Calls Try.prog 16 #[.int .i64 op, .int .i64 k, .int .i64 a, .int .i64 b] w fun e w' => e = .returned (.tuple #[.int .i64 (wrapF R V), .bool false]) ∧ w = w' := by
  rcases ho with rfl | rfl | rfl | rfl
  all_goals have HXE := Lib.hid hxe
  all_goals clear hxe
  all_goals go_enter Try.func16, Try.ntmps16
  all_goals go_wp2_with fail
  all_goals refine (ResultR_any _ _ _).mono ?_
  all_goals rintro e w' ⟨rfl, rfl⟩
  all_goals rw [HR.out]
  all_goals go_wp2_with fail
  all_goals refine (WrapR_any _ _ _).mono ?_
  all_goals rintro e w' ⟨rfl, rfl⟩
  all_goals rw [HA.out]
  all_goals go_wp2_with fail
  all_goals refine (SecondR_any _ _ _).mono ?_
  all_goals rintro e w' ⟨rfl, rfl⟩
  all_goals rw [HS.out]
  all_goals go_wp2_with fail
  all_goals refine (WrapR_any _ _ _).mono ?_
  all_goals rintro e w' ⟨rfl, rfl⟩
  all_goals rw [HB.out]
  all_goals go_wp2_with fail
  all_goals rw [HXE.out]
  all_goals refine (moved_any _ x B _ (by omega) hx b3 b4).mono ?_
  all_goals rintro e w' ⟨rfl, rfl⟩
  all_goals rw [hv.out]
  all_goals go_wp2_with fail
  all_goals refine (WrapR_any _ _ _).mono ?_
  all_goals rintro e w' ⟨rfl, rfl⟩
  all_goals go_wp2
  all_goals go_ret2
  all_goals exact ⟨rfl, rfl⟩

set_option maxRecDepth 100000 in
set_option maxHeartbeats 8000000 in
theorem DoR_cmp (op k a b R S A B V : Int) (w : World)
    (HR : Hid (resultF op k = R)) (HS : Hid (secondF op k = S)) (HA : Hid (wrapF k a = A)) (HB : Hid (wrapF S b = B)) (HV : Hid (rawF op A B = V)) (h0' : (R == 0) = false)
    (_a1 : -2147483648 ≤ A) (_a2 : A ≤ 4294967295) (_b1 : -2147483648 ≤ B) (_b2 : B ≤ 4294967295) (ho : op = 9 ∨ op = 10 ∨ op = 11 ∨ op = 12 ∨ op = 13 ∨ op = 14) (hv : Hid (compareF op A B = V)) :
    Calls Try.prog 16 #[.int .i64 op, .int .i64 k, .int .i64 a, .int .i64 b] w fun e w' => e = .returned (.tuple #[.int .i64 (wrapF R V), .bool false]) ∧ w = w' := by
  rcases ho with rfl | rfl | rfl | rfl | rfl | rfl
  all_goals go_enter Try.func16, Try.ntmps16
  all_goals go_wp2_with fail
  all_goals refine (ResultR_any _ _ _).mono ?_
  all_goals rintro e w' ⟨rfl, rfl⟩
  all_goals rw [HR.out]
  all_goals go_wp2_with fail
  all_goals refine (WrapR_any _ _ _).mono ?_
  all_goals rintro e w' ⟨rfl, rfl⟩
  all_goals rw [HA.out]
  all_goals go_wp2_with fail
  all_goals refine (SecondR_any _ _ _).mono ?_
  all_goals rintro e w' ⟨rfl, rfl⟩
  all_goals rw [HS.out]
  all_goals go_wp2_with fail
  all_goals refine (WrapR_any _ _ _).mono ?_
  all_goals rintro e w' ⟨rfl, rfl⟩
  all_goals rw [HB.out]
  all_goals go_wp2_with fail
  all_goals refine (yes_any _ _).mono ?_
  all_goals rintro e w' ⟨rfl, rfl⟩
  all_goals go_wp2_with fail
  all_goals refine (WrapR_any _ _ _).mono ?_
  all_goals rintro e w' ⟨rfl, rfl⟩
  all_goals go_wp2
  all_goals go_ret2
  all_goals refine ⟨?_, rfl⟩
  all_goals rw [← hv.out]
  all_goals first | rfl | (simp [compareF]; congr 2; rw [Bool.eq_iff_iff]; simp; try omega)

set_option maxRecDepth 100000 in
set_option maxHeartbeats 8000000 in
theorem DoR_div (op k a b R S A B V : Int) (w : World)
    (HR : Hid (resultF op k = R)) (HS : Hid (secondF op k = S)) (HA : Hid (wrapF k a = A)) (HB : Hid (wrapF S b = B)) (HV : Hid (rawF op A B = V)) (h0' : (R == 0) = false)
    (a1 : -2147483648 ≤ A) (a2 : A ≤ 4294967295) (b1 : -2147483648 ≤ B) (b2 : B ≤ 4294967295) (ho : op = 4 ∨ op = 5) (hv : Hid (reckonF op A B = V)) (hz : B < 0 ∨ 0 < B) (hzb : (B == 0) = false) :
    Calls Try.prog 16 #[.int .i64 op, .int .i64 k, .int .i64 a, .int .i64 b] w fun e w' => e = .returned (.tuple #[.int .i64 (wrapF R V), .bool false]) ∧ w = w' := by
  rcases ho with rfl | rfl
  all_goals go_enter Try.func16, Try.ntmps16
  all_goals go_wp2_with fail
  all_goals refine (ResultR_any _ _ _).mono ?_
  all_goals rintro e w' ⟨rfl, rfl⟩
  all_goals rw [HR.out]
  all_goals go_wp2_with fail
  all_goals refine (WrapR_any _ _ _).mono ?_
  all_goals rintro e w' ⟨rfl, rfl⟩
  all_goals rw [HA.out]
  all_goals go_wp2_with fail
  all_goals refine (SecondR_any _ _ _).mono ?_
  all_goals rintro e w' ⟨rfl, rfl⟩
  all_goals rw [HS.out]
  all_goals go_wp2_with fail
  all_goals refine (WrapR_any _ _ _).mono ?_
  all_goals rintro e w' ⟨rfl, rfl⟩
  all_goals rw [HB.out]
  all_goals have hd := tdiv_bd A B
  all_goals go_wp2_with fail
  all_goals try rw [mod_eq A B a1 a2 b1 b2]
  all_goals refine (WrapR_any _ _ _).mono ?_
  all_goals rintro e w' ⟨rfl, rfl⟩
  all_goals go_wp2
  all_goals go_ret2
  all_goals exact ⟨by rw [← hv.out]; rfl, rfl⟩

set_option maxRecDepth 100000 in
set_option maxHeartbeats 8000000 in
theorem DoR_rk (op k a b R S A B V : Int) (w : World)
    (HR : Hid (resultF op k = R)) (HS : Hid (secondF op k = S)) (HA : Hid (wrapF k a = A)) (HB : Hid (wrapF S b = B)) (HV : Hid (rawF op A B = V)) (h0' : (R == 0) = false)
    (a1 : -2147483648 ≤ A) (a2 : A ≤ 4294967295) (b1 : -2147483648 ≤ B) (b2 : B ≤ 4294967295) (ho : op = 1 ∨ op = 2 ∨ op = 3 ∨ op = 19 ∨ op = 20 ∨ op = 22 ∨ op = 23) (hv : Hid (reckonF op A B = V)) :
    Calls Try.prog 16 #[.int .i64 op, .int .i64 k, .int .i64 a, .int .i64 b] w fun e w' => e = .returned (.tuple #[.int .i64 (wrapF R V), .bool false]) ∧ w = w' := by
  rcases ho with rfl | rfl | rfl | rfl | rfl | rfl | rfl
  all_goals go_enter Try.func16, Try.ntmps16
  all_goals go_wp2_with fail
  all_goals refine (ResultR_any _ _ _).mono ?_
  all_goals rintro e w' ⟨rfl, rfl⟩
  all_goals rw [HR.out]
  all_goals go_wp2_with fail
  all_goals refine (WrapR_any _ _ _).mono ?_
  all_goals rintro e w' ⟨rfl, rfl⟩
  all_goals rw [HA.out]
  all_goals go_wp2_with fail
  all_goals refine (SecondR_any _ _ _).mono ?_
  all_goals rintro e w' ⟨rfl, rfl⟩
  all_goals rw [HS.out]
  all_goals go_wp2_with fail
  all_goals refine (WrapR_any _ _ _).mono ?_
  all_goals rintro e w' ⟨rfl, rfl⟩
  all_goals rw [HB.out]
  all_goals go_wp2_with fail
  all_goals refine (WrapR_any _ _ _).mono ?_
  all_goals rintro e w' ⟨rfl, rfl⟩
  all_goals go_wp2
  all_goals go_ret2
  all_goals refine ⟨?_, rfl⟩
  all_goals rw [← hv.out]
  all_goals first | rfl | (simp_all [reckonF]; done) | (simp [reckonF]; congr 2; split <;> omega)

set_option maxRecDepth 100000 in
set_option maxHeartbeats 8000000 in
theorem DoR_bw (op k a b R S A B V : Int) (w : World)
    (HR : Hid (resultF op k = R)) (HS : Hid (secondF op k = S)) (HA : Hid (wrapF k a = A)) (HB : Hid (wrapF S b = B)) (HV : Hid (rawF op A B = V)) (h0' : (R == 0) = false)
    (_a1 : -2147483648 ≤ A) (_a2 : A ≤ 4294967295) (_b1 : -2147483648 ≤ B) (_b2 : B ≤ 4294967295) (ho : op = 6 ∨ op = 7 ∨ op = 8 ∨ op = 21) (x y : Nat) (hx : x < 65536) (hy : y < 65536) (hxe : A = (x : Int)) (hye : B = (y : Int)) (hv : Hid (wrapF R (bitwiseN op x y) = wrapF R V)) :
    Calls Try.prog 16 #[.int .i64 op, .int .i64 k, .int .i64 a, .int .i64 b] w fun e w' => e = .returned (.tuple #[.int .i64 (wrapF R V), .bool false]) ∧ w = w' := by
  rcases ho with rfl | rfl | rfl | rfl
  all_goals have HXE := Lib.hid hxe
  all_goals have HYE := Lib.hid hye
  all_goals clear hxe hye
  all_goals go_enter Try.func16, Try.ntmps16
  all_goals go_wp2_with fail
  all_goals refine (ResultR_any _ _ _).mono ?_
  all_goals rintro e w' ⟨rfl, rfl⟩
  all_goals rw [HR.out]
  all_goals go_wp2_with fail
  all_goals refine (WrapR_any _ _ _).mono ?_
  all_goals rintro e w' ⟨rfl, rfl⟩
  all_goals rw [HA.out]
  all_goals go_wp2_with fail
  all_goals refine (SecondR_any _ _ _).mono ?_
  all_goals rintro e w' ⟨rfl, rfl⟩
  all_goals rw [HS.out]
  all_goals go_wp2_with fail
  all_goals refine (WrapR_any _ _ _).mono ?_
  all_goals rintro e w' ⟨rfl, rfl⟩
  all_goals rw [HB.out]
  all_goals go_wp2_with fail
  all_goals rw [HXE.out, HYE.out]
  all_goals refine (bitwise_any _ x y _ (by omega) hx hy).mono ?_
  all_goals rintro e w' ⟨rfl, rfl⟩
  all_goals go_wp2_with fail
  all_goals refine (WrapR_any _ _ _).mono ?_
  all_goals rintro e w' ⟨rfl, rfl⟩
  all_goals go_wp2
  all_goals go_ret2
  all_goals exact ⟨by rw [hv.out]; rfl, rfl⟩

theorem bw_eq (op R : Int) (x y : Nat) (ho : op = 6 ∨ op = 7 ∨ op = 8 ∨ op = 21) (hR : R = 1 ∨ R = 4) (hx : x < 65536) (hy : y < 65536) : wrapF R (bitwiseN op x y) = wrapF R (reckonF op x y) := by
  rcases ho with rfl | rfl | rfl | rfl
  · show wrapF R ((x &&& y : Nat) : Int) = wrapF R (bits .and .i64 x y)
    rw [i64_and_nat x y (by omega) (by omega)]
  · show wrapF R ((x ||| y : Nat) : Int) = wrapF R (bits .or .i64 x y)
    rw [i64_or_nat x y (by omega) (by omega)]
  · show wrapF R ((x ^^^ y : Nat) : Int) = wrapF R (bits .xor .i64 x y)
    rw [i64_xor_nat x y (by omega) (by omega)]
  · show wrapF R ((65535 - x : Nat) : Int) = wrapF R (bits .xor .i64 (-1) x)
    rw [not_eq _ (by omega) (by omega)]
    rcases hR with rfl | rfl
    · simp [wrapF]
      omega
    · simp [wrapF]
      omega

set_option maxRecDepth 100000 in
set_option maxHeartbeats 8000000 in
theorem DoR_any (op k a b : Int) (w : World) :
    Calls Try.prog 16 #[.int .i64 op, .int .i64 k, .int .i64 a, .int .i64 b] w fun e w' => e = .returned (.tuple #[.int .i64 (doF op k a b).1, .bool (doF op k a b).2]) ∧ w = w' := by
  generalize hR : resultF op k = R
  by_cases h0 : R = 0
  · have hF : doF op k a b = (0, false) := by simp [doF, hR, h0]
    rw [hF]
    have HR := Lib.hid hR
    have h0' : (R == 0) = true := by simp [h0]
    clear hR h0 hF
    go_enter Try.func16, Try.ntmps16
    go_wp2_with (go_at_call 20; refine (ResultR_any _ _ _).mono ?_; rintro e w' ⟨rfl, rfl⟩; rw [HR.out])
    go_ret2
    exact ⟨rfl, rfl⟩
  · have h0' : (R == 0) = false := by simp [h0]
    obtain ⟨a1, a2⟩ := wrap_bd k a
    obtain ⟨b1, b2⟩ := wrap_bd (secondF op k) b
    have hsh : (op = 15 ∨ op = 16 ∨ op = 17 ∨ op = 18) → (0 ≤ wrapF k a ∧ wrapF k a < 65536) ∧ -32768 ≤ wrapF (secondF op k) b ∧ wrapF (secondF op k) b ≤ 32767 := by
      intro ho
      have : secondF op k = 2 := by simp [secondF, hR, h0, ho]
      rw [this]
      have hk : k = 4 := by
        have h := hR
        unfold resultF at h
        rw [if_neg (by omega), if_neg (by omega), if_neg (by omega), if_neg (by omega), if_neg (by omega), if_pos ho] at h
        split at h <;> omega
      subst hk
      simp [wrapF]
      omega
    have hbw : (op = 6 ∨ op = 7 ∨ op = 8 ∨ op = 21) → (R = 1 ∨ R = 4) ∧ (0 ≤ wrapF k a ∧ wrapF k a < 65536) ∧ 0 ≤ wrapF (secondF op k) b ∧ wrapF (secondF op k) b < 65536 := by
      intro ho
      have h := hR
      unfold resultF at h
      rw [if_neg (by omega), if_neg (by omega), if_pos ho] at h
      have hk : k = 1 ∨ k = 4 := by
        simp [bitlikeB] at h
        by_cases hk : k = 1 ∨ k = 4
        · exact hk
        · rw [if_neg hk] at h
          omega
      have hs : secondF op k = 0 ∨ secondF op k = k := by
        unfold secondF
        rw [if_neg (show ¬ (op = 15 ∨ op = 16 ∨ op = 17 ∨ op = 18) by omega)]
        repeat' split
        all_goals simp
      have hRk : R = k := by
        rw [if_pos (by rcases hk with rfl | rfl <;> rfl)] at h
        exact h.symm
      have hw : ∀ n, 0 ≤ wrapF k n ∧ wrapF k n < 65536 := by
        intro n
        rcases hk with rfl | rfl
        · simp [wrapF]
          omega
        · simp [wrapF]
          omega
      refine ⟨by omega, hw a, ?_⟩
      rcases hs with hs | hs
      · rw [hs]
        simp [wrapF]
      · rw [hs]
        exact hw b
    have hop : 1 ≤ op ∧ op ≤ 23 := by
      have h := hR
      unfold resultF at h
      split at h
      · omega
      · repeat (split at h <;> try omega)
    have hF : doF op k a b = if (op = 4 ∨ op = 5) ∧ wrapF (secondF op k) b = 0 then (0, true) else (wrapF R (rawF op (wrapF k a) (wrapF (secondF op k) b)), false) := by simp [doF, hR, h0]
    rw [hF]
    generalize hS : secondF op k = S at *
    generalize hA : wrapF k a = A at *
    generalize hB : wrapF S b = B at *
    have HR := Lib.hid hR
    have HS := Lib.hid hS
    have HA := Lib.hid hA
    have HB := Lib.hid hB
    clear hR hS hA hB h0 hF
    by_cases hz : (op = 4 ∨ op = 5) ∧ B = 0
    · rw [if_pos hz]
      obtain ⟨ho, rfl⟩ := hz
      clear hsh hbw
      rcases ho with rfl | rfl
      all_goals go_enter Try.func16, Try.ntmps16
      all_goals go_wp2_with fail
      all_goals refine (ResultR_any _ _ _).mono ?_
      all_goals rintro e w' ⟨rfl, rfl⟩
      all_goals rw [HR.out]
      all_goals go_wp2_with fail
      all_goals refine (WrapR_any _ _ _).mono ?_
      all_goals rintro e w' ⟨rfl, rfl⟩
      all_goals rw [HA.out]
      all_goals go_wp2_with fail
      all_goals refine (SecondR_any _ _ _).mono ?_
      all_goals rintro e w' ⟨rfl, rfl⟩
      all_goals rw [HS.out]
      all_goals go_wp2_with fail
      all_goals refine (WrapR_any _ _ _).mono ?_
      all_goals rintro e w' ⟨rfl, rfl⟩
      all_goals rw [HB.out]
      all_goals go_wp2
      all_goals go_ret2
      all_goals exact ⟨rfl, rfl⟩
    · rw [if_neg hz]
      generalize hV : rawF op A B = V
      have HV := Lib.hid hV
      have hc : (op = 15 ∨ op = 16 ∨ op = 17 ∨ op = 18) ∨ (op = 9 ∨ op = 10 ∨ op = 11 ∨ op = 12 ∨ op = 13 ∨ op = 14) ∨ (op = 4 ∨ op = 5) ∨ (op = 6 ∨ op = 7 ∨ op = 8 ∨ op = 21) ∨ (op = 1 ∨ op = 2 ∨ op = 3 ∨ op = 19 ∨ op = 20 ∨ op = 22 ∨ op = 23) := by omega
      rcases hc with ho | ho | ho | ho | ho
      · obtain ⟨⟨x1, x2⟩, b3, b4⟩ := hsh ho
        obtain ⟨x, rfl⟩ := Int.eq_ofNat_of_zero_le x1
        refine DoR_sh op k a b R S x B V w HR HS HA HB HV h0' a1 a2 b1 b2 ho b3 b4 x (by omega) rfl ?_
        rw [rawF, if_pos ho, show ((x : Int) % 65536).toNat = x from by omega] at hV
        exact hV
      · refine DoR_cmp op k a b R S A B V w HR HS HA HB HV h0' a1 a2 b1 b2 ho ?_
        rw [rawF, if_neg (by omega), if_pos ho] at hV
        exact hV
      · refine DoR_div op k a b R S A B V w HR HS HA HB HV h0' a1 a2 b1 b2 ho ?_ (by omega) (by simp; omega)
        rw [rawF, if_neg (by omega), if_neg (by omega)] at hV
        exact hV
      · obtain ⟨hRR, ⟨x1, x2⟩, y1, y2⟩ := hbw ho
        obtain ⟨x, rfl⟩ := Int.eq_ofNat_of_zero_le x1
        obtain ⟨y, rfl⟩ := Int.eq_ofNat_of_zero_le y1
        refine DoR_bw op k a b R S x y V w HR HS HA HB HV h0' a1 a2 b1 b2 ho x y (by omega) (by omega) rfl rfl ?_
        rw [rawF, if_neg (by omega), if_neg (by omega)] at hV
        rw [← hV]
        exact bw_eq op R x y ho hRR (by omega) (by omega)
      · refine DoR_rk op k a b R S A B V w HR HS HA HB HV h0' a1 a2 b1 b2 ho ?_
        rw [rawF, if_neg (by omega), if_neg (by omega)] at hV
        exact hV
end Go.Proofs.Ytfdcgmcinkdlmaa.Cell
