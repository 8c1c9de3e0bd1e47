/-
  The reference's Linked and bus's Start: what they answer, with rows of their own. Conditions: the words read, within the reach.
-/
import Derived.Test.YtdncdmibmopilaaBus2
namespace Go.Proofs.Ytdncdmibmopilaa.Bus
open Go.RowKit Go.Proofs.Ytdncdmibmopilaa.W Go.Proofs.Ytdncdmibmopilaa.Ints

set_option maxHeartbeats 1600000 in
theorem Linked_any (st wt : Int) (A : Option Addr) (n c : Nat) (zs : List Int) (w : World) (hr : Rd w 1 A n (ints zs)) (hn : n * 8 ≤ 140737488351232) :
    Calls Try.prog 10 #[.int .i64 st, .int .i64 wt, .slice A n c] w fun e w' => FreshL w w' e (linkedF st wt zs) := by
  have hl := rd_len hr
  have HR := Lib.hid hr
  clear hr
  by_cases hg : 0 ≤ st ∧ st ≤ 247 ∧ 1 ≤ wt ∧ wt ≤ 1000
  · obtain ⟨g1, g2, g3, g4⟩ := hg
    by_cases hs : speltE zs = 0
    · rw [show linkedF st wt zs = (⟨st, wt, zs, zs, 0, 0, false⟩, 0) from by simp [linkedF, g1, g2, g3, g4, hs]]
      have HS := Lib.hid hs
      have HL := Lib.hid hl
      clear hs hl
      go_enter Try.func10, Try.ntmps10
      go_wp2_with fail
      refine (spelt_any A n c zs _ (HR.out.alloc _) (by unfold maxLen; omega)).mono ?_
      rintro e w' ⟨rfl, rfl⟩
      rw [HS.out]
      go_wp2_with fail
      refine (copyOf_any A n c zs _ (HR.out.alloc _) hn).mono ?_
      rintro e w1 ⟨A1, d1, rfl, ho1, hb1⟩
      go_wp2_with fail
      refine (copyOf_any A n c zs _ ((HR.out.alloc _).below hb1) hn).mono ?_
      rintro e w2 ⟨A2, d2, rfl, ho2, hb2⟩
      obtain ⟨k1, hbb, hz1⟩ := call1 hb1
      have k2 := k1.below hb2
      have c1 := k2.cell
      have f1 := k2.frozen
      have HO1 := Lib.hid (ok_lo (lo' := w.heap.size + 1) (ok_below (Own.mk' ho1 (Nat.le_refl w1.heap.size)) hb2) (by simp))
      have HO2 := Lib.hid (Own.mk' ho2 (Nat.le_refl w2.heap.size))
      have hs2 := hb2.size
      have HB := Lib.hid (hbb.trans (hb2.mono (Nat.le_of_lt hz1)))
      clear k1 k2 hb1 hb2 ho1 ho2 hbb
      go_wp2
      refine bodyPost_ret (v := .tuple #[linkV st wt (.slice A1 n d1) (.slice A2 n d2) 0 0 false, .int .i64 0]) ?_ rfl ?_
      · simp [results, Try.results10, go_sem, c1]
      · have hL := HL.out
        subst hL
        refine ⟨A1, d1, A2, d2, rfl, rows2_mid w1.heap.size (Nat.le_of_lt hz1) (by simpa using hs2) ?_ ?_ ?_⟩
        · refine ok_lo (lo := w.heap.size + 1) ?_ (by omega)
          repeat' (first | (with_reducible exact HO1.out) | (with_reducible refine ok_set ?_ ?_; rotate_left; (simp <;> omega)))
        · refine ok_hi (hi := w2.heap.size) ?_ (by simp)
          repeat' (first | (with_reducible exact HO2.out) | (with_reducible refine ok_set ?_ ?_; rotate_left; (simp <;> omega)))
        · repeat' (first | (with_reducible exact HB.out) | (with_reducible exact Below.refl _ _) | (with_reducible refine Below.setCell ?_ ?_ _; rotate_left; (simp <;> omega)) | (with_reducible refine Below.alloc ?_ ?_ _; rotate_left; (simp <;> omega)))
    · rw [show linkedF st wt zs = (zeroL, speltE zs) from by simp [linkedF, g1, g2, g3, g4, hs]]
      have hs' : (speltE zs != 0) = true := by simp [hs]
      clear hs hl
      go_enter Try.func10, Try.ntmps10
      go_wp2_with fail
      refine (spelt_any A n c zs _ (HR.out.alloc _) (by unfold maxLen; omega)).mono ?_
      rintro e w' ⟨rfl, rfl⟩
      go_wp2
      refine bodyPost_ret (v := .tuple #[linkV 0 0 (.slice none 0 0) (.slice none 0 0) 0 0 false, .int .i64 (speltE zs)]) ?_ rfl ?_
      · simp [results, Try.results10, go_sem]
      · refine fault_end _ ?_
        repeat' (first | (with_reducible exact HB.out) | (with_reducible exact Below.refl _ _) | (with_reducible refine Below.setCell ?_ ?_ _; rotate_left; (simp <;> omega)) | (with_reducible refine Below.alloc ?_ ?_ _; rotate_left; (simp <;> omega)))
  · rw [show linkedF st wt zs = (zeroL, 3) from by simp [linkedF, hg]]
    clear hl
    have hg : (st < 0) ∨ (0 ≤ st ∧ 247 < st) ∨ (0 ≤ st ∧ st ≤ 247 ∧ wt < 1) ∨ (0 ≤ st ∧ st ≤ 247 ∧ 1 ≤ wt ∧ 1000 < wt) := by omega
    rcases hg with h1 | ⟨h1, h2⟩ | ⟨h1, h2, h3⟩ | ⟨h1, h2, h3, h4⟩
    all_goals go_enter Try.func10, Try.ntmps10
    all_goals go_wp2
    all_goals
      refine bodyPost_ret (v := .tuple #[linkV 0 0 (.slice none 0 0) (.slice none 0 0) 0 0 false, .int .i64 3]) ?_ rfl ?_
      · simp [results, Try.results10, go_sem]
      · refine fault_end 3 ?_
        repeat' (first | (with_reducible exact HB.out) | (with_reducible exact Below.refl _ _) | (with_reducible refine Below.setCell ?_ ?_ _; rotate_left; (simp <;> omega)) | (with_reducible refine Below.alloc ?_ ?_ _; rotate_left; (simp <;> omega)))

set_option maxHeartbeats 1600000 in
theorem Start_any (st wt : Int) (A : Option Addr) (n c : Nat) (zs : List Int) (w : World) (hr : Rd w 1 A n (ints zs)) (hn : n * 8 ≤ 140737488351232) (hw : wt ≤ 9223372036854775807) :
    Calls Try.prog 12 #[.int .i64 st, .int .i64 wt, .slice A n c] w fun e w' => FreshL w w' e (linkedF st wt zs) := by
  have hl := rd_len hr
  have HR := Lib.hid hr
  clear hr
  by_cases hg : 0 ≤ st ∧ st ≤ 247 ∧ 1 ≤ wt ∧ wt ≤ 1000
  · obtain ⟨g1, g2, g3, g4⟩ := hg
    by_cases hs : speltE zs = 0
    · rw [show linkedF st wt zs = (⟨st, wt, zs, zs, 0, 0, false⟩, 0) from by simp [linkedF, g1, g2, g3, g4, hs]]
      have HS := Lib.hid hs
      have HL := Lib.hid hl
      clear hs hl
      go_enter Try.func12, Try.ntmps12
      go_wp2_with (first | (go_at_call 32; refine (within_any _ _ _).mono ?_; rintro e w' ⟨rfl, rfl⟩) | fail)
      go_wp2_with fail
      refine (words_any A n c zs _ (HR.out.alloc _) (by unfold maxLen; omega)).mono ?_
      rintro e w' ⟨rfl, rfl⟩
      rw [HS.out]
      go_wp2_with fail
      refine (Clone_any A n c zs _ (HR.out.alloc _) hn).mono ?_
      rintro e w1 ⟨A1, d1, rfl, ho1, hb1⟩
      go_wp2_with fail
      refine (Clone_any A n c zs _ ((HR.out.alloc _).below hb1) hn).mono ?_
      rintro e w2 ⟨A2, d2, rfl, ho2, hb2⟩
      obtain ⟨k1, hbb, hz1⟩ := call1 hb1
      have k2 := k1.below hb2
      have c1 := k2.cell
      have f1 := k2.frozen
      have HO1 := Lib.hid (ok_lo (lo' := w.heap.size + 1) (ok_below (Own.mk' ho1 (Nat.le_refl w1.heap.size)) hb2) (by simp))
      have HO2 := Lib.hid (Own.mk' ho2 (Nat.le_refl w2.heap.size))
      have hs2 := hb2.size
      have HB := Lib.hid (hbb.trans (hb2.mono (Nat.le_of_lt hz1)))
      clear k1 k2 hb1 hb2 ho1 ho2 hbb
      go_wp2
      refine bodyPost_ret (v := .tuple #[linkV st wt (.slice A1 n d1) (.slice A2 n d2) 0 0 false, .int .i64 0]) ?_ rfl ?_
      · simp [results, Try.results12, go_sem, c1]
      · have hL := HL.out
        subst hL
        refine ⟨A1, d1, A2, d2, rfl, rows2_mid w1.heap.size (Nat.le_of_lt hz1) (by simpa using hs2) ?_ ?_ ?_⟩
        · refine ok_lo (lo := w.heap.size + 1) ?_ (by omega)
          repeat' (first | (with_reducible exact HO1.out) | (with_reducible refine ok_set ?_ ?_; rotate_left; (simp <;> omega)))
        · refine ok_hi (hi := w2.heap.size) ?_ (by simp)
          repeat' (first | (with_reducible exact HO2.out) | (with_reducible refine ok_set ?_ ?_; rotate_left; (simp <;> omega)))
        · repeat' (first | (with_reducible exact HB.out) | (with_reducible exact Below.refl _ _) | (with_reducible refine Below.setCell ?_ ?_ _; rotate_left; (simp <;> omega)) | (with_reducible refine Below.alloc ?_ ?_ _; rotate_left; (simp <;> omega)))
    · rw [show linkedF st wt zs = (zeroL, speltE zs) from by simp [linkedF, g1, g2, g3, g4, hs]]
      have hs' : (speltE zs != 0) = true := by simp [hs]
      clear hs hl
      go_enter Try.func12, Try.ntmps12
      go_wp2_with (first | (go_at_call 32; refine (within_any _ _ _).mono ?_; rintro e w' ⟨rfl, rfl⟩) | fail)
      go_wp2_with fail
      refine (words_any A n c zs _ (HR.out.alloc _) (by unfold maxLen; omega)).mono ?_
      rintro e w' ⟨rfl, rfl⟩
      go_wp2
      refine bodyPost_ret (v := .tuple #[linkV 0 0 (.slice none 0 0) (.slice none 0 0) 0 0 false, .int .i64 (speltE zs)]) ?_ rfl ?_
      · simp [results, Try.results12, go_sem]
      · refine fault_end _ ?_
        repeat' (first | (with_reducible exact HB.out) | (with_reducible exact Below.refl _ _) | (with_reducible refine Below.setCell ?_ ?_ _; rotate_left; (simp <;> omega)) | (with_reducible refine Below.alloc ?_ ?_ _; rotate_left; (simp <;> omega)))
  · rw [show linkedF st wt zs = (zeroL, 3) from by simp [linkedF, hg]]
    clear hl
    have hg : (st < 0) ∨ (0 ≤ st ∧ 247 < st) ∨ (0 ≤ st ∧ st ≤ 247 ∧ wt < 1) ∨ (0 ≤ st ∧ st ≤ 247 ∧ 1 ≤ wt ∧ 1000 < wt) := by omega
    rcases hg with h1 | ⟨h1, h2⟩ | ⟨h1, h2, h3⟩ | ⟨h1, h2, h3, h4⟩
    all_goals go_enter Try.func12, Try.ntmps12
    all_goals go_wp2_with (go_at_call 32; refine (within_any _ _ _).mono ?_; rintro e w' ⟨rfl, rfl⟩)
    all_goals
      refine bodyPost_ret (v := .tuple #[linkV 0 0 (.slice none 0 0) (.slice none 0 0) 0 0 false, .int .i64 3]) ?_ rfl ?_
      · simp [results, Try.results12, go_sem]
      · refine fault_end 3 ?_
        repeat' (first | (with_reducible exact HB.out) | (with_reducible exact Below.refl _ _) | (with_reducible refine Below.setCell ?_ ?_ _; rotate_left; (simp <;> omega)) | (with_reducible refine Below.alloc ?_ ?_ _; rotate_left; (simp <;> omega)))
end Go.Proofs.Ytdncdmibmopilaa.Bus
