/-
  Contracts of the keep-statements' own helpers: equal, picked. Conditions: the slices read as lists; the number to pick from is greater than nought.
-/
import Derived.Test.YtdncdmibmopilaaInts
namespace Go.Proofs.Ytdncdmibmopilaa.Keep
open Go.RowKit Go.Proofs.Ytdncdmibmopilaa.W Go.Proofs.Ytdncdmibmopilaa.Ints

def pickN (n m : Int) : Int := (if n < 0 then -(n + 1) else n) % m
theorem pick_lt {n m : Int} (hm : 0 < m) : 0 ≤ pickN n m ∧ pickN n m < m := ⟨Int.emod_nonneg _ (by omega), Int.emod_lt_of_pos _ hm⟩
theorem picked_any (n m : Int) (w : World) (h1 : -9223372036854775808 ≤ n) (h2 : n ≤ 9223372036854775807) (h3 : 0 < m) (h4 : m ≤ 9223372036854775807) :
    Calls Try.prog 28 #[.int .i64 n, .int .i64 m] w fun e w' => e = .returned (.int .i64 (pickN n m)) ∧ w' = w := by
  by_cases h : n < 0
  · have hp : pickN n m = (-(n + 1)) % m := by simp [pickN, h]
    have hq : (-(n + 1)).tmod m = (-(n + 1)) % m := Int.tmod_eq_emod_of_nonneg (by omega)
    go_enter Try.func28, Try.ntmps28
    go_wp2
    go_ret
    exact ⟨ret_int (by first | rfl | rw [hp] | exact hq.trans hp.symm), rfl⟩
  · have hp : pickN n m = n % m := by simp [pickN, h]
    have hq : n.tmod m = n % m := Int.tmod_eq_emod_of_nonneg (by omega)
    go_enter Try.func28, Try.ntmps28
    go_wp2
    go_ret
    exact ⟨ret_int (by first | rfl | rw [hp] | exact hq.trans hp.symm), rfl⟩

set_option maxHeartbeats 400000 in
theorem equal_eq (A B : Option Addr) (n c d : Nat) (xs ys : List Int) (w : World) (hA : Rd w 1 A n (ints xs)) (hB : Rd w 1 B n (ints ys)) (hm : n ≤ maxLen) :
    Calls Try.prog 29 #[.slice A n c, .slice B n d] w fun e w' => e = .returned (.bool (decide (xs = ys))) ∧ ∃ k, w' = w.drewN k := by
  unfold maxLen at hm
  have hx := rd_len hA
  have hy := rd_len hB
  have HX := Lib.hid hx
  have HY := Lib.hid hy
  clear hx hy
  have HA := Lib.hid hA
  have HB := Lib.hid hB
  clear hA hB
  go_enter Try.func29, Try.ntmps29
  go_wp2
  go_loopw [5] (fun i wr => ∃ k : Nat, k ≤ n ∧ i = .int .i64 k ∧ Hid (xs.take k = ys.take k) ∧ ∃ q, wr = w.drewN q) (fun i _ => n - (intOf i).toNat)
  case atStart => exact ⟨0, Nat.zero_le _, rfl, rfl, 0, rfl⟩
  case round =>
    obtain ⟨k, hk, rfl, ht, q, rfl⟩ := hrel
    by_cases hlt : k < n
    · obtain ⟨b, o, rfl, hc⟩ := rd_at HA.out (by omega)
      obtain ⟨b', o', rfl, hc'⟩ := rd_at HB.out (by omega)
      have h1 := hc k hlt
      have h2 := hc' k hlt
      clear hc hc'
      generalize hu : xs.getD k 0 = u at h1
      generalize hv : ys.getD k 0 = v at h2
      have HU := Lib.hid hu
      have HV := Lib.hid hv
      clear hu hv
      go_wp2
      go_quiet (fail)
      go_wp2
      · have hne : (u != v) = true := by assumption
        have hfin : false = decide (xs = ys) := by
          symm
          apply decide_eq_false
          intro he
          rw [← HU.out, ← HV.out, he] at hne
          simp at hne
        go_ret
        exact ⟨ret_bool hfin, drew2 _ _ _⟩
      · have hne : (u != v) = false := by assumption
        have he : u = v := by simpa using hne
        go_roundw
        case rel => exact ⟨k + 1, by omega, by go_num, take_next (by rw [HX.out]; exact hlt) (by rw [HY.out]; exact hlt) ht (by rw [HU.out, HV.out]; exact he), _, rfl⟩
        case measure => simp [intOf]; omega
    · have hk' : k = n := by omega
      have hfin : true = decide (xs = ys) := by
        symm
        apply decide_eq_true
        have h := ht.out
        rwa [List.take_of_length_le (by rw [HX.out]; omega), List.take_of_length_le (by rw [HY.out]; omega)] at h
      have HF := Lib.hid hfin
      clear hfin
      go_wp2
      go_ret
      exact ⟨ret_bool HF.out, _, rfl⟩

theorem equal_ne (A B : Option Addr) (n m c d : Nat) (w : World) (h : n ≠ m) :
    Calls Try.prog 29 #[.slice A n c, .slice B m d] w fun e w' => e = .returned (.bool false) ∧ ∃ k, w' = w.drewN k := by
  have hb : ((n : Int) != (m : Int)) = true := by simp; omega
  go_enter Try.func29, Try.ntmps29
  go_wp2
  go_ret
  exact ⟨rfl, 0, rfl⟩

/-- equal answers whether the two lists are one; it only reads. -/
theorem equal_any (A B : Option Addr) (n m c d : Nat) (xs ys : List Int) (w : World) (hA : Rd w 1 A n (ints xs)) (hB : Rd w 1 B m (ints ys)) (hm : n ≤ maxLen) :
    Calls Try.prog 29 #[.slice A n c, .slice B m d] w fun e w' => e = .returned (.bool (decide (xs = ys))) ∧ ∃ k, w' = w.drewN k := by
  by_cases h : n = m
  · subst h
    exact equal_eq A B n c d xs ys w hA hB hm
  · refine (equal_ne A B n m c d w h).mono ?_
    rintro e w' ⟨rfl, hw⟩
    refine ⟨ret_bool ?_, hw⟩
    symm
    apply decide_eq_false
    intro he
    exact h (by rw [← rd_len hA, ← rd_len hB, he])

end Go.Proofs.Ytdncdmibmopilaa.Keep
