/-
  Who runs when, by tasks, for any list. Conditions: the list reads.
-/
import Derived.Test.YthnpeekeoaiaoaaPly7
namespace Go.Proofs.Ythnpeekeoaiaoaa.Task
open Go.RowKit Go.Proofs.Ythnpeekeoaiaoaa.W Go.Proofs.Ythnpeekeoaiaoaa.Ints

set_option maxRecDepth 100000 in
set_option maxHeartbeats 6400000 in
theorem Play_any (A : Option Addr) (n c : Nat) (ts : List TD) (u : Int) (w : World) (hr : Rd w 5 A n (tasksV ts)) (hnc : n ≤ c) :
    Calls Try.prog 12 #[.slice A n c, .int .i64 u] w fun e w' => FreshP w w' e (playedF ts u) := by
  by_cases hf : (faultF ts).1 = 0
  · by_cases hu : u < 0 ∨ 20000 < u
    · obtain ⟨n1, n16, hok, hff⟩ := fault_ok hf
      have HO : Hid (playedF ts u = ([], (4, 0))) := by rw [Hid, playedF, if_pos hf, if_pos hu]
      have HF := Lib.hid hff
      have HR := Lib.hid hr
      have hu' : u < 0 ∨ (0 ≤ u ∧ 20000 < u) := by omega
      clear hu hr hff hf hok n1 n16
      rcases hu' with hu | ⟨hu0, hu⟩
      all_goals go_enter Try.func12, Try.ntmps12
      all_goals go_wp2_with fail
      all_goals refine (fault_any A n c ts _ (HR.out.alloc _)).mono ?_
      all_goals rintro e w1 ⟨rfl, hb⟩
      all_goals rw [HF.out]
      all_goals have M1 := Lib.hid ((((Mem.start w).alloc 26 #[.int .i64 0, .int .i64 0, .int .i64 0]).below hb).alloc 26 #[.int .i64 0, .int .i64 0, .int .i64 0])
      all_goals have c1 := M1.out.cellK 0 rfl
      all_goals have c2 := M1.out.cellK 1 rfl
      all_goals have f2 := M1.out.frozenK 1 rfl
      all_goals have hz := (M1.out.ltK 1 rfl).2
      all_goals have HB := Lib.hid M1.out.bel
      all_goals simp only [World.size_alloc] at hz
      all_goals clear hb M1
      all_goals go_wp2
      all_goals refine bodyPost_ret (v := .tuple #[.slice none 0 0, faultV (4, 0)]) ?_ rfl ?_
      all_goals first | (simp [results, Try.results12, go_sem, c2]; done) | skip
      all_goals rw [HO.out]
      all_goals refine fault_p _ ?_
      all_goals repeat' (first | (with_reducible exact HB.out) | (with_reducible refine Below.setCell ?_ ?_ _; rotate_left; (simp <;> omega)) | (with_reducible refine Below.alloc ?_ ?_ _; rotate_left; (simp <;> omega)))
    · obtain ⟨U, rfl⟩ := Int.eq_ofNat_of_zero_le (show 0 ≤ u by omega)
      exact Play_ok A n c ts U w hr hnc hf (by omega)
  · have hF : playedF ts u = ([], faultF ts) := by rw [playedF, if_neg hf]
    rw [hF]
    have hf' : ((faultF ts).1 != 0) = true := by simp [hf]
    generalize hff : faultF ts = f at hf'
    have HF := Lib.hid hff
    have HR := Lib.hid hr
    clear hF hf hr hff
    go_enter Try.func12, Try.ntmps12
    go_wp2_with fail
    refine (fault_any A n c ts _ (HR.out.alloc _)).mono ?_
    rintro e w1 ⟨rfl, hb⟩
    rw [HF.out]
    obtain ⟨k1, hb, z1⟩ := call1 hb
    have c1 := k1.cell
    have f1 := k1.frozen
    have B1 := Lib.hid hb
    clear k1 hb
    go_wp2
    go_region
    all_goals go_wp2
    all_goals refine bodyPost_ret (v := .tuple #[.slice none 0 0, faultV f]) ?_ rfl ?_
    all_goals first | (simp [results, Try.results12, go_sem, c1, z1]; done) | skip
    all_goals refine fault_p _ (below_drewN ?_ 1)
    all_goals repeat' (first | (with_reducible exact B1.out) | (with_reducible refine Below.setCell ?_ ?_ _; rotate_left; (simp <;> omega)) | (with_reducible refine Below.alloc ?_ ?_ _; rotate_left; (simp <;> omega)))
theorem played_len (ts : List TD) (u : Int) : (playedF ts u).1.length ≤ 20000 := by
  unfold playedF
  split
  · split
    · simp
    · rename_i h
      have := (play_ok ts u.toNat).2.1
      simp only
      omega
  · simp
end Go.Proofs.Ythnpeekeoaiaoaa.Task
