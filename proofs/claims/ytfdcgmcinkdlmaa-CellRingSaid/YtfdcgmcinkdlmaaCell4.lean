/-
  What cell answers to an operation: Do. Conditions: the numbers are ints.
-/
import Derived.Test.YtfdcgmcinkdlmaaCell3
namespace Go.Proofs.Ytfdcgmcinkdlmaa.Cell
open Go.RowKit Go.Proofs.Ytfdcgmcinkdlmaa.W Go.Proofs.Ytfdcgmcinkdlmaa.Num

theorem wrap64_bd (n : Int) : -9223372036854775808 ≤ wrap64 n ∧ wrap64 n ≤ 9223372036854775807 := by
  unfold wrap64
  omega
theorem i64wrap_bd (n : Int) : -9223372036854775808 ≤ IntKind.i64.wrap n ∧ IntKind.i64.wrap n ≤ 9223372036854775807 := by
  simp [IntKind.wrap, IntKind.bits, IntKind.signed]
  split <;> omega
theorem bits_bd (o : BinOp) (a b : Int) : -9223372036854775808 ≤ bits o .i64 a b ∧ bits o .i64 a b ≤ 9223372036854775807 := i64wrap_bd _
def InI (x : Int) : Prop := -9223372036854775808 ≤ x ∧ x ≤ 9223372036854775807
theorem InI.ite {p : Prop} [Decidable p] {x y : Int} (h : InI x) (h' : InI y) : InI (if p then x else y) := by
  split
  · exact h
  · exact h'
theorem shift_lt (op : Int) {x : Nat} (b : Nat) (h : x < 65536) : shiftF op x b < 65536 := by
  unfold shiftF
  split
  · omega
  · split
    · exact div_lt16 _ h
    · split
      · exact rot_lt _ h
      · exact rot_lt _ h
theorem yes_bd (c : Bool) : 0 ≤ yesF c ∧ yesF c ≤ 1 := by cases c <;> simp [yesF]
theorem compare_bd (op a b : Int) : 0 ≤ compareF op a b ∧ compareF op a b ≤ 1 := by
  unfold compareF
  repeat' split
  all_goals exact yes_bd _
theorem tmod_bd (a b : Int) (h1 : -2147483648 ≤ a) (h2 : a ≤ 4294967295) (h3 : -2147483648 ≤ b) (h4 : b ≤ 4294967295) : -4294967296 ≤ a.tmod b ∧ a.tmod b ≤ 4294967296 := by
  rcases Int.lt_trichotomy b 0 with h | h | h
  · have h5 := Int.lt_tmod_of_pos a (show 0 < -b by omega)
    have h6 := Int.tmod_lt_of_pos a (show 0 < -b by omega)
    rw [Int.tmod_neg] at h5 h6
    omega
  · rw [h, Int.tmod_zero]
    omega
  · have h5 := Int.lt_tmod_of_pos a h
    have h6 := Int.tmod_lt_of_pos a h
    omega
theorem raw_bd (op a b : Int) (h1 : -2147483648 ≤ a) (h2 : a ≤ 4294967295) (h3 : -2147483648 ≤ b) (h4 : b ≤ 4294967295) : -9223372036854775808 ≤ rawF op a b ∧ rawF op a b ≤ 9223372036854775807 := by
  have hd := tdiv_bd a b
  have ht := tmod_bd a b h1 h2 h3 h4
  unfold rawF
  split
  · have := shift_lt op b.toNat (x := (a % 65536).toNat) (by omega)
    omega
  · split
    · have := compare_bd op a b
      omega
    · show InI (reckonF op a b)
      unfold reckonF
      repeat' (with_reducible refine InI.ite ?_ ?_)
      all_goals first | exact wrap64_bd _ | exact bits_bd _ _ _ | (unfold InI; omega)

set_option maxRecDepth 100000 in
set_option maxHeartbeats 8000000 in
theorem Do_sh (op k a b R S A B V : Int) (w : World) (ha : -9223372036854775808 ≤ a) (ha' : a ≤ 9223372036854775807) (hb : -9223372036854775808 ≤ b) (hb' : b ≤ 9223372036854775807)
    (HR : Hid (resultF op k = R)) (HS : Hid (secondF op k = S)) (HA : Hid (wrapF k a = A)) (HB : Hid (wrapF S b = B)) (HV : Hid (rawF op A B = V)) (h0' : (R == 0) = false)
    (_a1 : -2147483648 ≤ A) (_a2 : A ≤ 4294967295) (_b1 : -2147483648 ≤ B) (_b2 : B ≤ 4294967295) (v1 : -9223372036854775808 ≤ V) (v2 : V ≤ 9223372036854775807) (ho : op = 15 ∨ op = 16 ∨ op = 17 ∨ op = 18) (b3 : -32768 ≤ B) (b4 : B ≤ 32767) (x : Nat) (hx : x < 65536) (hxe : IntKind.u16.wrap A = (x : Int)) (hv : Hid ((shiftF op x B.toNat : Int) = V)) :
    Calls Try.prog 13 #[.int .i64 op, .int .i64 k, .int .i64 a, .int .i64 b] w fun e w' => e = .returned (.tuple #[.int .i64 (wrapF R V), .bool false]) ∧ ∃ q, w' = w.drewN q := by
  rcases ho with rfl | rfl | rfl | rfl
  all_goals go_enter Try.func13, Try.ntmps13
  all_goals go_wp2_with fail
  all_goals refine (Result_any _ _ _).mono ?_
  all_goals rintro e w' ⟨rfl, rfl⟩
  all_goals rw [HR.out]
  all_goals go_wp2_with fail
  all_goals refine (Wrap_any _ _ _ ha ha').mono ?_
  all_goals rintro e w' ⟨rfl, rfl⟩
  all_goals rw [HA.out]
  all_goals go_wp2_with fail
  all_goals refine (Second_any _ _ _).mono ?_
  all_goals rintro e w' ⟨rfl, rfl⟩
  all_goals rw [HS.out]
  all_goals go_wp2_with fail
  all_goals refine (Wrap_any _ _ _ hb hb').mono ?_
  all_goals rintro e w' ⟨rfl, rfl⟩
  all_goals rw [HB.out]
  all_goals go_wp2_with fail
  all_goals refine (shift_any _ x B _ (by omega) hx b3 b4).mono ?_
  all_goals rintro e w' ⟨rfl, q, rfl⟩
  all_goals rw [hv.out]
  all_goals go_wp2_with fail
  all_goals refine (Wrap_any _ _ _ v1 v2).mono ?_
  all_goals rintro e w' ⟨rfl, rfl⟩
  all_goals go_wp2
  all_goals go_ret2
  all_goals exact ⟨rfl, q, rfl⟩

set_option maxRecDepth 100000 in
set_option maxHeartbeats 8000000 in
theorem Do_cmp (op k a b R S A B V : Int) (w : World) (ha : -9223372036854775808 ≤ a) (ha' : a ≤ 9223372036854775807) (hb : -9223372036854775808 ≤ b) (hb' : b ≤ 9223372036854775807)
    (HR : Hid (resultF op k = R)) (HS : Hid (secondF op k = S)) (HA : Hid (wrapF k a = A)) (HB : Hid (wrapF S b = B)) (HV : Hid (rawF op A B = V)) (h0' : (R == 0) = false)
    (_a1 : -2147483648 ≤ A) (_a2 : A ≤ 4294967295) (_b1 : -2147483648 ≤ B) (_b2 : B ≤ 4294967295) (v1 : -9223372036854775808 ≤ V) (v2 : V ≤ 9223372036854775807) (ho : op = 9 ∨ op = 10 ∨ op = 11 ∨ op = 12 ∨ op = 13 ∨ op = 14) (hv : Hid (compareF op A B = V)) :
    Calls Try.prog 13 #[.int .i64 op, .int .i64 k, .int .i64 a, .int .i64 b] w fun e w' => e = .returned (.tuple #[.int .i64 (wrapF R V), .bool false]) ∧ ∃ q, w' = w.drewN q := by
  rcases ho with rfl | rfl | rfl | rfl | rfl | rfl
  all_goals go_enter Try.func13, Try.ntmps13
  all_goals go_wp2_with fail
  all_goals refine (Result_any _ _ _).mono ?_
  all_goals rintro e w' ⟨rfl, rfl⟩
  all_goals rw [HR.out]
  all_goals go_wp2_with fail
  all_goals refine (Wrap_any _ _ _ ha ha').mono ?_
  all_goals rintro e w' ⟨rfl, rfl⟩
  all_goals rw [HA.out]
  all_goals go_wp2_with fail
  all_goals refine (Second_any _ _ _).mono ?_
  all_goals rintro e w' ⟨rfl, rfl⟩
  all_goals rw [HS.out]
  all_goals go_wp2_with fail
  all_goals refine (Wrap_any _ _ _ hb hb').mono ?_
  all_goals rintro e w' ⟨rfl, rfl⟩
  all_goals rw [HB.out]
  all_goals go_wp2_with fail
  all_goals refine (compare_any _ A B _).mono ?_
  all_goals rintro e w' ⟨rfl, rfl⟩
  all_goals rw [hv.out]
  all_goals go_wp2_with fail
  all_goals refine (Wrap_any _ _ _ v1 v2).mono ?_
  all_goals rintro e w' ⟨rfl, rfl⟩
  all_goals go_wp2
  all_goals go_ret2
  all_goals exact ⟨rfl, 0, rfl⟩

set_option maxRecDepth 100000 in
set_option maxHeartbeats 8000000 in
theorem Do_div (op k a b R S A B V : Int) (w : World) (ha : -9223372036854775808 ≤ a) (ha' : a ≤ 9223372036854775807) (hb : -9223372036854775808 ≤ b) (hb' : b ≤ 9223372036854775807)
    (HR : Hid (resultF op k = R)) (HS : Hid (secondF op k = S)) (HA : Hid (wrapF k a = A)) (HB : Hid (wrapF S b = B)) (HV : Hid (rawF op A B = V)) (h0' : (R == 0) = false)
    (a1 : -2147483648 ≤ A) (a2 : A ≤ 4294967295) (b1 : -2147483648 ≤ B) (b2 : B ≤ 4294967295) (v1 : -9223372036854775808 ≤ V) (v2 : V ≤ 9223372036854775807) (ho : op = 4 ∨ op = 5) (hv : Hid (reckonF op A B = V)) (hz : B < 0 ∨ 0 < B) (hzb : (B == 0) = false) :
    Calls Try.prog 13 #[.int .i64 op, .int .i64 k, .int .i64 a, .int .i64 b] w fun e w' => e = .returned (.tuple #[.int .i64 (wrapF R V), .bool false]) ∧ ∃ q, w' = w.drewN q := by
  rcases ho with rfl | rfl
  all_goals go_enter Try.func13, Try.ntmps13
  all_goals go_wp2_with fail
  all_goals refine (Result_any _ _ _).mono ?_
  all_goals rintro e w' ⟨rfl, rfl⟩
  all_goals rw [HR.out]
  all_goals go_wp2_with fail
  all_goals refine (Wrap_any _ _ _ ha ha').mono ?_
  all_goals rintro e w' ⟨rfl, rfl⟩
  all_goals rw [HA.out]
  all_goals go_wp2_with fail
  all_goals refine (Second_any _ _ _).mono ?_
  all_goals rintro e w' ⟨rfl, rfl⟩
  all_goals rw [HS.out]
  all_goals go_wp2_with fail
  all_goals refine (Wrap_any _ _ _ hb hb').mono ?_
  all_goals rintro e w' ⟨rfl, rfl⟩
  all_goals rw [HB.out]
  all_goals go_wp2_with fail
  all_goals refine (reckon_any _ A B _ a1 a2 b1 b2 (fun _ => hz)).mono ?_
  all_goals rintro e w' ⟨rfl, rfl⟩
  all_goals rw [hv.out]
  all_goals go_wp2_with fail
  all_goals refine (Wrap_any _ _ _ v1 v2).mono ?_
  all_goals rintro e w' ⟨rfl, rfl⟩
  all_goals go_wp2
  all_goals go_ret2
  all_goals exact ⟨rfl, 0, rfl⟩

set_option maxRecDepth 100000 in
set_option maxHeartbeats 8000000 in
theorem Do_rk (op k a b R S A B V : Int) (w : World) (ha : -9223372036854775808 ≤ a) (ha' : a ≤ 9223372036854775807) (hb : -9223372036854775808 ≤ b) (hb' : b ≤ 9223372036854775807)
    (HR : Hid (resultF op k = R)) (HS : Hid (secondF op k = S)) (HA : Hid (wrapF k a = A)) (HB : Hid (wrapF S b = B)) (HV : Hid (rawF op A B = V)) (h0' : (R == 0) = false)
    (a1 : -2147483648 ≤ A) (a2 : A ≤ 4294967295) (b1 : -2147483648 ≤ B) (b2 : B ≤ 4294967295) (v1 : -9223372036854775808 ≤ V) (v2 : V ≤ 9223372036854775807) (ho : op = 1 ∨ op = 2 ∨ op = 3 ∨ op = 6 ∨ op = 7 ∨ op = 8 ∨ op = 19 ∨ op = 20 ∨ op = 21 ∨ op = 22 ∨ op = 23) (hv : Hid (reckonF op A B = V)) :
    Calls Try.prog 13 #[.int .i64 op, .int .i64 k, .int .i64 a, .int .i64 b] w fun e w' => e = .returned (.tuple #[.int .i64 (wrapF R V), .bool false]) ∧ ∃ q, w' = w.drewN q := by
  rcases ho with rfl | rfl | rfl | rfl | rfl | rfl | rfl | rfl | rfl | rfl | rfl
  all_goals go_enter Try.func13, Try.ntmps13
  all_goals go_wp2_with fail
  all_goals refine (Result_any _ _ _).mono ?_
  all_goals rintro e w' ⟨rfl, rfl⟩
  all_goals rw [HR.out]
  all_goals go_wp2_with fail
  all_goals refine (Wrap_any _ _ _ ha ha').mono ?_
  all_goals rintro e w' ⟨rfl, rfl⟩
  all_goals rw [HA.out]
  all_goals go_wp2_with fail
  all_goals refine (Second_any _ _ _).mono ?_
  all_goals rintro e w' ⟨rfl, rfl⟩
  all_goals rw [HS.out]
  all_goals go_wp2_with fail
  all_goals refine (Wrap_any _ _ _ hb hb').mono ?_
  all_goals rintro e w' ⟨rfl, rfl⟩
  all_goals rw [HB.out]
  all_goals go_wp2_with fail
  all_goals refine (reckon_any _ A B _ a1 a2 b1 b2 (fun h => by omega)).mono ?_
  all_goals rintro e w' ⟨rfl, rfl⟩
  all_goals rw [hv.out]
  all_goals go_wp2_with fail
  all_goals refine (Wrap_any _ _ _ v1 v2).mono ?_
  all_goals rintro e w' ⟨rfl, rfl⟩
  all_goals go_wp2
  all_goals go_ret2
  all_goals exact ⟨rfl, 0, rfl⟩

set_option maxRecDepth 100000 in
set_option maxHeartbeats 8000000 in
theorem Do_any (op k a b : Int) (w : World) (ha : -9223372036854775808 ≤ a) (ha' : a ≤ 9223372036854775807) (hb : -9223372036854775808 ≤ b) (hb' : b ≤ 9223372036854775807) :
    Calls Try.prog 13 #[.int .i64 op, .int .i64 k, .int .i64 a, .int .i64 b] w fun e w' => e = .returned (.tuple #[.int .i64 (doF op k a b).1, .bool (doF op k a b).2]) ∧ ∃ q, w' = w.drewN q := by
  generalize hR : resultF op k = R
  by_cases h0 : R = 0
  · have hF : doF op k a b = (0, false) := by simp [doF, hR, h0]
    rw [hF]
    have HR := Lib.hid hR
    have h0' : (R == 0) = true := by simp [h0]
    clear hR h0 hF
    go_enter Try.func13, Try.ntmps13
    go_wp2_with (go_at_call 19; refine (Result_any _ _ _).mono ?_; rintro e w' ⟨rfl, rfl⟩; rw [HR.out])
    go_ret2
    exact ⟨rfl, 0, rfl⟩
  · have h0' : (R == 0) = false := by simp [h0]
    obtain ⟨a1, a2⟩ := wrap_bd k a
    obtain ⟨b1, b2⟩ := wrap_bd (secondF op k) b
    have hsh : (op = 15 ∨ op = 16 ∨ op = 17 ∨ op = 18) → -32768 ≤ wrapF (secondF op k) b ∧ wrapF (secondF op k) b ≤ 32767 := by
      intro ho
      have : secondF op k = 2 := by simp [secondF, hR, h0, ho]
      rw [this]
      simp [wrapF]
      omega
    have hop : 1 ≤ op ∧ op ≤ 23 := by
      have h := hR
      unfold resultF at h
      split at h
      · omega
      · repeat (split at h <;> try omega)
    have hF : doF op k a b = if (op = 4 ∨ op = 5) ∧ wrapF (secondF op k) b = 0 then (0, true) else (wrapF R (rawF op (wrapF k a) (wrapF (secondF op k) b)), false) := by simp [doF, hR, h0]
    rw [hF]
    generalize hS : secondF op k = S at *
    generalize hA : wrapF k a = A at *
    generalize hB : wrapF S b = B at *
    have hraw := raw_bd op A B a1 a2 b1 b2
    have HR := Lib.hid hR
    have HS := Lib.hid hS
    have HA := Lib.hid hA
    have HB := Lib.hid hB
    clear hR hS hA hB h0 hF
    by_cases hz : (op = 4 ∨ op = 5) ∧ B = 0
    · rw [if_pos hz]
      obtain ⟨ho, rfl⟩ := hz
      clear hraw hsh
      rcases ho with rfl | rfl
      all_goals go_enter Try.func13, Try.ntmps13
      all_goals go_wp2_with fail
      all_goals refine (Result_any _ _ _).mono ?_
      all_goals rintro e w' ⟨rfl, rfl⟩
      all_goals rw [HR.out]
      all_goals go_wp2_with fail
      all_goals refine (Wrap_any _ _ _ ha ha').mono ?_
      all_goals rintro e w' ⟨rfl, rfl⟩
      all_goals rw [HA.out]
      all_goals go_wp2_with fail
      all_goals refine (Second_any _ _ _).mono ?_
      all_goals rintro e w' ⟨rfl, rfl⟩
      all_goals rw [HS.out]
      all_goals go_wp2_with fail
      all_goals refine (Wrap_any _ _ _ hb hb').mono ?_
      all_goals rintro e w' ⟨rfl, rfl⟩
      all_goals rw [HB.out]
      all_goals go_wp2
      all_goals go_ret2
      all_goals exact ⟨rfl, 0, rfl⟩
    · rw [if_neg hz]
      have hx : (A % 65536).toNat < 65536 := by omega
      have hxe : IntKind.u16.wrap A = (((A % 65536).toNat : Nat) : Int) := by rw [wrap_u16]; omega
      generalize hV : rawF op A B = V at hraw
      obtain ⟨v1, v2⟩ := hraw
      have HV := Lib.hid hV
      have hc : (op = 15 ∨ op = 16 ∨ op = 17 ∨ op = 18) ∨ (op = 9 ∨ op = 10 ∨ op = 11 ∨ op = 12 ∨ op = 13 ∨ op = 14) ∨ (op = 4 ∨ op = 5) ∨ (op = 1 ∨ op = 2 ∨ op = 3 ∨ op = 6 ∨ op = 7 ∨ op = 8 ∨ op = 19 ∨ op = 20 ∨ op = 21 ∨ op = 22 ∨ op = 23) := by omega
      rcases hc with ho | ho | ho | ho
      · refine Do_sh op k a b R S A B V w ha ha' hb hb' HR HS HA HB HV h0' a1 a2 b1 b2 v1 v2 ho (hsh ho).1 (hsh ho).2 _ hx hxe ?_
        rw [rawF, if_pos ho] at hV
        exact hV
      · refine Do_cmp op k a b R S A B V w ha ha' hb hb' HR HS HA HB HV h0' a1 a2 b1 b2 v1 v2 ho ?_
        rw [rawF, if_neg (by omega), if_pos ho] at hV
        exact hV
      · refine Do_div op k a b R S A B V w ha ha' hb hb' HR HS HA HB HV h0' a1 a2 b1 b2 v1 v2 ho ?_ (by omega) (by simp; omega)
        rw [rawF, if_neg (by omega), if_neg (by omega)] at hV
        exact hV
      · refine Do_rk op k a b R S A B V w ha ha' hb hb' HR HS HA HB HV h0' a1 a2 b1 b2 v1 v2 ho ?_
        rw [rawF, if_neg (by omega), if_neg (by omega)] at hV
        exact hV
end Go.Proofs.Ytfdcgmcinkdlmaa.Cell
