/-
  The reference's look at a list of tasks: the same. Conditions: the list reads, within the reach.
-/
import Derived.Test.YthnpeekeoaiaoaaTask1
namespace Go.Proofs.Ythnpeekeoaiaoaa.Task
open Go.RowKit Go.Proofs.Ythnpeekeoaiaoaa.W Go.Proofs.Ythnpeekeoaiaoaa.Ints

theorem ok_parts {t : TD} (h : t.okB = true) : 1 ≤ t.per ∧ t.per ≤ 1000000 ∧ 1 ≤ t.cost ∧ t.cost ≤ t.per ∧ 1 ≤ t.dead ∧ t.dead ≤ t.per ∧ 0 ≤ t.off ∧ t.off ≤ 1000000 := by
  simp [TD.okB] at h
  omega
theorem bad_ways {t : TD} (h : t.okB = false) : t.per < 1 ∨ (1 ≤ t.per ∧ 1000000 < t.per) ∨ (1 ≤ t.per ∧ t.per ≤ 1000000 ∧ t.cost < 1) ∨ (1 ≤ t.per ∧ t.per ≤ 1000000 ∧ 1 ≤ t.cost ∧ t.per < t.cost) ∨
    (1 ≤ t.per ∧ t.per ≤ 1000000 ∧ 1 ≤ t.cost ∧ t.cost ≤ t.per ∧ t.dead < 1) ∨ (1 ≤ t.per ∧ t.per ≤ 1000000 ∧ 1 ≤ t.cost ∧ t.cost ≤ t.per ∧ 1 ≤ t.dead ∧ t.per < t.dead) ∨
    (1 ≤ t.per ∧ t.per ≤ 1000000 ∧ 1 ≤ t.cost ∧ t.cost ≤ t.per ∧ 1 ≤ t.dead ∧ t.dead ≤ t.per ∧ t.off < 0) ∨ (1 ≤ t.per ∧ t.per ≤ 1000000 ∧ 1 ≤ t.cost ∧ t.cost ≤ t.per ∧ 1 ≤ t.dead ∧ t.dead ≤ t.per ∧ 0 ≤ t.off ∧ 1000000 < t.off) := by
  by_cases h' : 1 ≤ t.per ∧ t.per ≤ 1000000 ∧ 1 ≤ t.cost ∧ t.cost ≤ t.per ∧ 1 ≤ t.dead ∧ t.dead ≤ t.per ∧ 0 ≤ t.off ∧ t.off ≤ 1000000
  · simp [TD.okB, h'] at h
  · omega

set_option maxHeartbeats 3200000 in
theorem Tasked_any (A : Option Addr) (n c : Nat) (ts : List TD) (w : World) (hr : Rd w 5 A n (tasksV ts)) :
    Calls Try.prog 20 #[.slice A n c] w fun e w' => e = .returned (faultV (faultF ts)) ∧ Below w.heap.size w w' := by
  have hl := Rd.rec_len TD.len (by omega) hr
  have HR := Lib.hid hr
  clear hr
  by_cases hg : n < 1 ∨ 16 < n
  · rw [show faultF ts = (4, 0) from by simp only [faultF, hl, if_pos hg]]
    clear hl
    have hg : n = 0 ∨ 16 < n := by omega
    rcases hg with rfl | hg
    all_goals go_enter Try.func20, Try.ntmps20
    all_goals go_wp2
    all_goals refine bodyPost_ret (v := faultV (4, 0)) ?_ rfl ⟨rfl, ?_⟩
    all_goals first | exact below_alloc _ | simp [results, Try.results20, go_sem]
  · have hF : faultF ts = if 0 ≤ badAt ts then (19, badAt ts) else (0, 0) := by simp only [faultF, hl, if_neg hg]
    generalize hT : faultF ts = T at hF ⊢
    have HT := Lib.hid hF
    have HL := Lib.hid hl
    have h1 : 1 ≤ n := by omega
    have h16 : n ≤ 16 := by omega
    clear hT hF hg hl
    go_enter Try.func20, Try.ntmps20
    go_wp2
    have K0 := Lib.hid (Blk.new w 26 #[.int .i64 0, .int .i64 0, .int .i64 0])
    have B0 := Lib.hid (below_alloc (w := w) (.cells #[.int .i64 0, .int .i64 0, .int .i64 0] 26))
    go_loopw [3, 4, 5, 6, 7] (fun i _ _ _ _ wr => ∃ k : Nat, k ≤ n ∧ i = .int .i64 k ∧ Hid ((ts.take k).all TD.okB = true) ∧ Hid (Below w.heap.size w wr) ∧ Hid (Blk wr w.heap.size 26 #[.int .i64 0, .int .i64 0, .int .i64 0])) (fun i _ _ _ _ _ => n - (intOf i).toNat)
    case atStart => exact ⟨0, Nat.zero_le _, rfl, by simp [Hid], B0, K0⟩
    case round =>
      clear K0 B0
      obtain ⟨k, hk, rfl, ha, hb, hkk⟩ := hrel
      have c0' := hkk.out.cell
      have f0' := hkk.out.frozen
      have hbl0 := hkk.out.lt
      by_cases hlt : k < n
      · obtain ⟨b, o, t, rfl, ht, hbl, c0, c1, c2, c3, c4⟩ := task_at (HR.out.below hb.out) hlt
        have hbs := hb.out.size
        have HA := Lib.hid ht
        clear ht
        cases ho : t.okB
        · have hw := bad_ways ho
          have HO : Hid (T = (19, (k : Int))) := by rw [Hid, HT.out, bad_some HA.out ho ha.out, if_pos (by omega)]
          clear ho
          rcases hw with h | h | h | h | h | h | h | h
          all_goals (try obtain ⟨x1, h⟩ := h)
          all_goals (try obtain ⟨x2, h⟩ := h)
          all_goals (try obtain ⟨x3, h⟩ := h)
          all_goals (try obtain ⟨x4, h⟩ := h)
          all_goals (try obtain ⟨x5, h⟩ := h)
          all_goals (try obtain ⟨x6, h⟩ := h)
          all_goals (try obtain ⟨x7, h⟩ := h)
          all_goals go_wp2
          all_goals refine bodyPost_ret (v := faultV (19, k)) ?_ rfl ⟨by rw [HO.out], ?_⟩
          all_goals first | (simp [results, Try.results20, go_sem, c0', hbl0]; done) | (repeat' (first | (with_reducible exact hb.out) | (with_reducible refine Below.setCell ?_ ?_ _; rotate_left; (simp <;> omega)) | (with_reducible refine Below.alloc ?_ ?_ _; rotate_left; (simp <;> omega))))
        · obtain ⟨x1, x2, x3, x4, x5, x6, x7, x8⟩ := ok_parts ho
          have HO := Lib.hid ho
          clear ho
          go_wp2
          go_roundw
          case rel => exact ⟨k + 1, by omega, by go_num, all_next HA.out ha.out HO.out, hb.out.alloc hbs _, hkk.out.alloc _⟩
          case measure => simp [intOf]; omega
      · have HO : Hid (T = (0, 0)) := by
          have h := ha.out
          rw [List.take_of_length_le (by rw [HL.out]; omega)] at h
          rw [Hid, HT.out, bad_none h]
          rfl
        go_wp2
        refine bodyPost_ret (v := faultV (0, 0)) ?_ rfl ⟨by rw [HO.out], ?_⟩
        · simp [results, Try.results20, go_sem, c0']
        · repeat' (first | (with_reducible exact hb.out) | (with_reducible refine Below.setCell ?_ ?_ _; rotate_left; (simp <;> omega)))
end Go.Proofs.Ythnpeekeoaiaoaa.Task
