/-
  The statements' own sameTasks. Conditions: the lists read alike.
-/
import Derived.Test.YthnpeekeoaiaoaaTask1
import Derived.Deep.QuietTactic
import Derived.BigQuiet
namespace Go.Proofs.Ythnpeekeoaiaoaa.Task
open Go.RowKit Go.Proofs.Ythnpeekeoaiaoaa.W Go.Proofs.Ythnpeekeoaiaoaa.Ints

theorem task_info : (Try.prog.info? 42).map (fun i => (i.zero, i.size, i.bytes)) = some (some (.agg #[.string ByteArray.empty, .int .i64 0, .int .i64 0, .int .i64 0, .int .i64 0]), 5, 48) := by kernel_rfl
theorem tasks_one (ts : List TD) : ∀ u ∈ tasksV ts, u.oneCell' = true := by
  intro u hu
  obtain ⟨t, _, ht⟩ := List.mem_flatMap.1 hu
  simp [TD.cs] at ht
  rcases ht with rfl | rfl | rfl | rfl | rfl <;> rfl

set_option maxHeartbeats 1600000 in
theorem sameTasks_eq (A B : Option Addr) (n c d : Nat) (ts : List TD) (w : World) (hA : Rd w 5 A n (tasksV ts)) (hB : Rd w 5 B n (tasksV ts)) (hn : n ≤ 140737488351232) :
    Calls Try.prog 13 #[.slice A n c, .slice B n d] w fun e w' => e = .returned (.bool true) ∧ ∃ k, w' = w.drewN k := by
  have HA := Lib.hid hA
  have HB := Lib.hid hB
  clear hA hB
  go_enter Try.func13, Try.ntmps13
  go_wp2
  go_loopw [5] (fun i wr => ∃ k : Nat, k ≤ n ∧ i = .int .i64 k ∧ ∃ q, wr = w.drewN q) (fun i _ => n - (intOf i).toNat)
  case atStart => exact ⟨0, Nat.zero_le _, rfl, 0, rfl⟩
  case round =>
    obtain ⟨k, hk, rfl, q, rfl⟩ := hrel
    by_cases hlt : k < n
    · obtain ⟨b, o, t, rfl, ht, hbl, c0, c1, c2, c3, c4⟩ := task_at HA.out hlt
      obtain ⟨b', o', t', rfl, ht', hbl', d0, d1, d2, d3, d4⟩ := task_at HB.out hlt
      obtain rfl : t = t' := by rw [ht] at ht'; injection ht'
      have hk0 : (0 : Int) ≤ (k : Int) := by omega
      have hkn : (k : Int) < (n : Int) := by omega
      clear ht ht' hbl hbl'
      go_wp2
      go_quiet (fail)
      go_wp2
      go_roundw
      case rel => exact ⟨k + 1, by omega, by go_num, _, rfl⟩
      case measure => simp [intOf]; omega
    · go_wp2
      go_ret
      exact ⟨rfl, _, rfl⟩
end Go.Proofs.Ythnpeekeoaiaoaa.Task
