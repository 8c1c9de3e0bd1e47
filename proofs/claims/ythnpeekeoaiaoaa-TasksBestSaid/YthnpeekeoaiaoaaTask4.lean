/-
  How long a task's jobs take by the reference. Conditions: the list reads; the tasks are right.
-/
import Derived.Test.YthnpeekeoaiaoaaTask3
namespace Go.Proofs.Ythnpeekeoaiaoaa.Task
open Go.RowKit Go.Proofs.Ythnpeekeoaiaoaa.W Go.Proofs.Ythnpeekeoaiaoaa.Ints

theorem get_ok {ts : List TD} {k : Nat} {t : TD} (h : ts.all TD.okB = true) (ht : ts[k]? = some t) : t.okB = true := by
  rw [List.all_eq_true] at h
  exact h t (List.mem_of_getElem? ht)

set_option maxHeartbeats 1600000 in
/-- what r asks for -/
theorem need_any (q0 q1 : Nat) (A : Option Addr) (n c i : Nat) (ts : List TD) (t : TD) (r : Int) (w : World) (h0 : w.cell? ⟨q0, 0, none⟩ = some (.slice A n c)) (h1 : w.cell? ⟨q1, 0, none⟩ = some (.int .i64 i))
    (hr : Rd w 5 A n (tasksV ts)) (ht : ts[i]? = some t) (ha : ts.all TD.okB = true) (hn : n ≤ 16) (r1 : 0 ≤ r) (r2 : r ≤ 1000000) :
    Calls Try.prog 30 #[.int .i64 r, .pointer (some ⟨q0, 0, none⟩), .pointer (some ⟨q1, 0, none⟩)] w fun e w' => e = .returned (.int .i64 (needF ts t i r)) ∧ w = w' := by
  have hl := Rd.rec_len TD.len (by omega) hr
  have hi : i < n := by have := (List.getElem?_eq_some_iff.1 ht).1; omega
  obtain ⟨b, o, t', rfl, ht', hbl, c0, c1, c2, c3, c4⟩ := task_at hr hi
  obtain rfl : t' = t := by rw [ht] at ht'; injection ht' with h; exact h.symm
  obtain ⟨p1, p2, p3, p4, _⟩ := ok_parts (get_ok ha ht)
  have HR := Lib.hid hr
  have HA := Lib.hid ha
  clear hr ha ht ht' hl c0 c1 c2 c4
  have hi0 : (0 : Int) ≤ (i : Int) := by omega
  have hin : (i : Int) < (n : Int) := by omega
  go_enter Try.func30, Try.ntmps30
  go_wp2
  go_loop [5, 6, 7] (fun v k _ => ∃ j : Nat, j ≤ i ∧ k = .int .i64 j ∧ v = .int .i64 (t'.cost + sumF r (ts.take j))) (fun _ k _ => i - (intOf k).toNat)
  case atStart => exact ⟨0, Nat.zero_le _, rfl, by simp [sumF]⟩
  case round =>
    obtain ⟨j, hj, rfl, rfl⟩ := hrel
    have hs := sum_bd r1 r2 _ (all_take_ok j HA.out)
    have hlen : (ts.take j).length ≤ 16 := by have := List.length_take_le j ts; omega
    have hb1 : 0 ≤ sumF r (ts.take j) := hs.1
    have hb2 : sumF r (ts.take j) ≤ 16000000000000 := by have := hs.2; omega
    clear hs hlen
    by_cases hlt : j < i
    · obtain ⟨b', o', a, e, ha', _, _, d1, _, d3, _⟩ := task_at HR.out (show j < n by omega)
      injection e with e
      injection e with e1 e2
      subst e1 e2
      obtain ⟨u1, u2, u3, u4, _⟩ := ok_parts (get_ok HA.out ha')
      have HN := Lib.hid (need_next r ha')
      have hup := up_eq u1 r1
      obtain ⟨ub1, ub2⟩ := up_bd u1 r1
      have hm : upF r a.per * a.cost ≤ 1000000 * 1000000 := Int.mul_le_mul (by omega) (by omega) (by omega) (by omega)
      have hm0 : 0 ≤ upF r a.per * a.cost := Int.mul_nonneg ub1 (by omega)
      clear ha'
      generalize sumF r (ts.take j) = S at hb1 hb2 HN
      generalize a.per = p at *
      generalize a.cost = q at *
      generalize upF r p = U at *
      have hq0 := Int.ediv_nonneg r1 (show 0 ≤ p by omega)
      by_cases hp : 0 < r % p
      · rw [if_pos hp] at hup
        generalize hD : r / p = D at *
        subst hup
        go_wp2
        go_round
        case rel => exact ⟨j + 1, by omega, by go_num, by rw [HN.out, ← Int.add_assoc]⟩
        case measure => simp [intOf]; omega
      · rw [if_neg hp] at hup
        have hp' : r % p ≤ 0 := by omega
        generalize hD : r / p = D at *
        subst hup
        clear hp
        go_wp2
        go_round
        case rel => exact ⟨j + 1, by omega, by go_num, by rw [HN.out, ← Int.add_assoc]⟩
        case measure => simp [intOf]; omega
    · obtain rfl : j = i := by omega
      go_wp2
      go_ret
      exact ⟨rfl, rfl⟩
end Go.Proofs.Ythnpeekeoaiaoaa.Task
