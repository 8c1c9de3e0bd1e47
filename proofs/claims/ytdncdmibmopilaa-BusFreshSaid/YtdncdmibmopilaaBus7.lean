/-
  Which links may be: slices.Equal, the reference's CouldBe. Conditions: the words read, within the reach.
-/
import Derived.Test.YtdncdmibmopilaaBus4
namespace Go.Proofs.Ytdncdmibmopilaa.Bus
open Go.RowKit Go.Proofs.Ytdncdmibmopilaa.W Go.Proofs.Ytdncdmibmopilaa.Ints

set_option maxHeartbeats 400000 in
theorem Equal_eq (A B : Option Addr) (n c d : Nat) (xs ys : List Int) (w : World) (hA : Rd w 1 A n (ints xs)) (hB : Rd w 1 B n (ints ys)) (hm : n ≤ maxLen) :
    Calls Try.prog 48 #[.slice A n c, .slice B n d] w fun e w' => e = .returned (.bool (decide (xs = ys))) ∧ ∃ k, w' = w.drewN k := by
  unfold maxLen at hm
  have hx := rd_len hA
  have hy := rd_len hB
  have HX := Lib.hid hx
  have HY := Lib.hid hy
  clear hx hy
  have HA := Lib.hid hA
  have HB := Lib.hid hB
  clear hA hB
  go_enter Try.func48, Try.ntmps48
  go_wp2
  go_loopw [5, 13] (fun _ i wr => ∃ k : Nat, k ≤ n ∧ i = .int .i64 k ∧ Hid (xs.take k = ys.take k) ∧ ∃ q, wr = w.drewN q) (fun _ i _ => n - (intOf i).toNat)
  case atStart => exact ⟨0, Nat.zero_le _, rfl, rfl, 0, rfl⟩
  case round =>
    obtain ⟨k, hk, rfl, ht, q, rfl⟩ := hrel
    by_cases hlt : k < n
    · obtain ⟨b, o, rfl, hc⟩ := rd_at HA.out (by omega)
      obtain ⟨b', o', rfl, hc'⟩ := rd_at HB.out (by omega)
      have h1 := hc k hlt
      have h2 := hc' k hlt
      clear hc hc'
      generalize hu : xs.getD k 0 = u at h1
      generalize hv : ys.getD k 0 = v at h2
      have HU := Lib.hid hu
      have HV := Lib.hid hv
      clear hu hv
      go_wp2
      go_quiet (fail)
      go_wp2
      · have hne : (u != v) = true := by assumption
        have hfin : false = decide (xs = ys) := by
          symm
          apply decide_eq_false
          intro he
          rw [← HU.out, ← HV.out, he] at hne
          simp at hne
        go_ret
        exact ⟨ret_bool hfin, drew2 _ _ _⟩
      · have hne : (u != v) = false := by assumption
        have he : u = v := by simpa using hne
        go_roundw
        case rel => exact ⟨k + 1, by omega, by go_num, take_next (by rw [HX.out]; exact hlt) (by rw [HY.out]; exact hlt) ht (by rw [HU.out, HV.out]; exact he), _, rfl⟩
        case measure => simp [intOf]; omega
    · have hk' : k = n := by omega
      have hfin : true = decide (xs = ys) := by
        symm
        apply decide_eq_true
        have h := ht.out
        rwa [List.take_of_length_le (by rw [HX.out]; omega), List.take_of_length_le (by rw [HY.out]; omega)] at h
      have HF := Lib.hid hfin
      clear hfin
      go_wp2
      go_ret
      exact ⟨ret_bool HF.out, _, rfl⟩
end Go.Proofs.Ytdncdmibmopilaa.Bus
