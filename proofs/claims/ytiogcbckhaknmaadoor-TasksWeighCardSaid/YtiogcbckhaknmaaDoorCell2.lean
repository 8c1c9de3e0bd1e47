/-
  Which operation answers what kind: cell's and the reference's Result and Second. No conditions.
-/
import Derived.Test.YtiogcbckhaknmaaDoorCell1
namespace Go.Proofs.YtiogcbckhaknmaaDoor.Cell
open Go.RowKit Go.Proofs.YtiogcbckhaknmaaDoor.W Go.Proofs.YtiogcbckhaknmaaDoor.Num

def signedB (k : Int) : Bool := k == 2 || k == 3
def bitlikeB (k : Int) : Bool := k == 1 || k == 4
def countingB (k : Int) : Bool := k == 2 || k == 3 || k == 5
def orderedB (k : Int) : Bool := k == 2 || k == 3 || k == 5 || k == 4
def knownB (k : Int) : Bool := k == 1 || k == 2 || k == 3 || k == 4 || k == 5
def resultF (op k : Int) : Int :=
  if op = 1 ∨ op = 2 then (if countingB k then k else 0) else if op = 3 ∨ op = 4 ∨ op = 5 ∨ op = 22 ∨ op = 23 then (if signedB k then k else 0)
  else if op = 6 ∨ op = 7 ∨ op = 8 ∨ op = 21 then (if bitlikeB k then k else 0) else if op = 9 ∨ op = 10 then (if knownB k then 1 else 0)
  else if op = 11 ∨ op = 12 ∨ op = 13 ∨ op = 14 then (if orderedB k then 1 else 0) else if op = 15 ∨ op = 16 ∨ op = 17 ∨ op = 18 then (if k = 4 then k else 0)
  else if op = 19 ∨ op = 20 then (if orderedB k then k else 0) else 0
def secondF (op k : Int) : Int := if resultF op k = 0 then 0 else if op = 15 ∨ op = 16 ∨ op = 17 ∨ op = 18 then 2 else if op = 21 ∨ op = 22 ∨ op = 23 then 0 else k

theorem signed_any (k : Int) (w : World) : Calls Tryd.prog 44 #[.int .i64 k] w fun e w' => e = .returned (.bool (signedB k)) ∧ w = w' := by
  go_enter Tryd.func44, Tryd.ntmps44
  go_wp2
  all_goals go_ret
  all_goals exact ⟨ret_bool (by simp_all [signedB]), rfl⟩
theorem bitlike_any (k : Int) (w : World) : Calls Tryd.prog 45 #[.int .i64 k] w fun e w' => e = .returned (.bool (bitlikeB k)) ∧ w = w' := by
  go_enter Tryd.func45, Tryd.ntmps45
  go_wp2
  all_goals go_ret
  all_goals exact ⟨ret_bool (by simp_all [bitlikeB]), rfl⟩
theorem counting_any (k : Int) (w : World) : Calls Tryd.prog 43 #[.int .i64 k] w fun e w' => e = .returned (.bool (countingB k)) ∧ w = w' := by
  go_enter Tryd.func43, Tryd.ntmps43
  go_wp2_with (go_at_call 44; refine (signed_any _ _).mono ?_; rintro e w' ⟨rfl, rfl⟩)
  all_goals go_ret
  all_goals exact ⟨ret_bool (by simp_all [signedB, countingB]), rfl⟩
theorem ordered_any (k : Int) (w : World) : Calls Tryd.prog 47 #[.int .i64 k] w fun e w' => e = .returned (.bool (orderedB k)) ∧ w = w' := by
  go_enter Tryd.func47, Tryd.ntmps47
  go_wp2_with (go_at_call 43; refine (counting_any _ _).mono ?_; rintro e w' ⟨rfl, rfl⟩)
  all_goals go_ret
  all_goals exact ⟨ret_bool (by simp_all [countingB, orderedB]), rfl⟩

theorem ops (op : Int) : op = 1 ∨ op = 2 ∨ op = 3 ∨ op = 4 ∨ op = 5 ∨ op = 6 ∨ op = 7 ∨ op = 8 ∨ op = 9 ∨ op = 10 ∨ op = 11 ∨ op = 12 ∨ op = 13 ∨ op = 14 ∨ op = 15 ∨ op = 16 ∨ op = 17 ∨ op = 18 ∨ op = 19 ∨ op = 20 ∨ op = 21 ∨ op = 22 ∨ op = 23 ∨ ((op == 1) = false ∧ (op == 2) = false ∧ (op == 3) = false ∧ (op == 4) = false ∧ (op == 5) = false ∧ (op == 6) = false ∧ (op == 7) = false ∧ (op == 8) = false ∧ (op == 9) = false ∧ (op == 10) = false ∧ (op == 11) = false ∧ (op == 12) = false ∧ (op == 13) = false ∧ (op == 14) = false ∧ (op == 15) = false ∧ (op == 16) = false ∧ (op == 17) = false ∧ (op == 18) = false ∧ (op == 19) = false ∧ (op == 20) = false ∧ (op == 21) = false ∧ (op == 22) = false ∧ (op == 23) = false) := by
  simp only [beq_eq_false_iff_ne, ne_eq]
  omega

set_option maxRecDepth 100000 in
set_option maxHeartbeats 4000000 in
theorem Result_any (op k : Int) (w : World) : Calls Tryd.prog 37 #[.int .i64 op, .int .i64 k] w fun e w' => e = .returned (.int .i64 (resultF op k)) ∧ w = w' := by
  rcases ops op with rfl | rfl | rfl | rfl | rfl | rfl | rfl | rfl | rfl | rfl | rfl | rfl | rfl | rfl | rfl | rfl | rfl | rfl | rfl | rfl | rfl | rfl | rfl | ⟨o1, o2, o3, o4, o5, o6, o7, o8, o9, o10, o11, o12, o13, o14, o15, o16, o17, o18, o19, o20, o21, o22, o23⟩
  all_goals go_enter Tryd.func37, Tryd.ntmps37
  all_goals go_wp2_with (first | (go_at_call 44; refine (signed_any _ _).mono ?_; rintro e w' ⟨rfl, rfl⟩) | (go_at_call 43; refine (counting_any _ _).mono ?_; rintro e w' ⟨rfl, rfl⟩) | (go_at_call 45; refine (bitlike_any _ _).mono ?_; rintro e w' ⟨rfl, rfl⟩) | (go_at_call 47; refine (ordered_any _ _).mono ?_; rintro e w' ⟨rfl, rfl⟩) | (go_at_call 46; refine (width_any _ _).mono ?_; rintro e w' ⟨rfl, rfl⟩))
  all_goals go_ret
  all_goals refine ⟨ret_int ?_, rfl⟩
  all_goals first | (simp_all [resultF]; done) | (rcases kinds k with rfl | rfl | rfl | rfl | rfl | ⟨h1, h2, h3, h4, h5⟩ <;> simp_all [resultF, knownB, widthF]; done)

set_option maxRecDepth 100000 in
set_option maxHeartbeats 4000000 in
theorem ResultR_any (op k : Int) (w : World) : Calls Tryd.prog 24 #[.int .i64 op, .int .i64 k] w fun e w' => e = .returned (.int .i64 (resultF op k)) ∧ w = w' := by
  rcases ops op with rfl | rfl | rfl | rfl | rfl | rfl | rfl | rfl | rfl | rfl | rfl | rfl | rfl | rfl | rfl | rfl | rfl | rfl | rfl | rfl | rfl | rfl | rfl | ⟨o1, o2, o3, o4, o5, o6, o7, o8, o9, o10, o11, o12, o13, o14, o15, o16, o17, o18, o19, o20, o21, o22, o23⟩
  rotate_right
  · have hR : resultF op k = 0 := by
      simp only [beq_eq_false_iff_ne, ne_eq] at o1 o2 o3 o4 o5 o6 o7 o8 o9 o10 o11 o12 o13 o14 o15 o16 o17 o18 o19 o20 o21 o22 o23
      simp [resultF, o1, o2, o3, o4, o5, o6, o7, o8, o9, o10, o11, o12, o13, o14, o15, o16, o17, o18, o19, o20, o21, o22, o23]
    rw [hR]
    clear hR
    have ho : op < 1 ∨ 23 < op := by
      simp only [beq_eq_false_iff_ne, ne_eq] at o1 o2 o3 o4 o5 o6 o7 o8 o9 o10 o11 o12 o13 o14 o15 o16 o17 o18 o19 o20 o21 o22 o23
      omega
    rcases ho with ho | ho
    all_goals go_enter Tryd.func24, Tryd.ntmps24
    all_goals go_wp2
    all_goals go_ret
    all_goals exact ⟨rfl, rfl⟩
  all_goals go_enter Tryd.func24, Tryd.ntmps24
  all_goals go_wp2
  all_goals go_ret
  all_goals refine ⟨ret_int ?_, rfl⟩
  all_goals (simp_all [resultF, countingB, signedB, bitlikeB, orderedB, knownB]; done)

set_option maxRecDepth 100000 in
set_option maxHeartbeats 4000000 in
theorem Second_any (op k : Int) (w : World) : Calls Tryd.prog 50 #[.int .i64 op, .int .i64 k] w fun e w' => e = .returned (.int .i64 (secondF op k)) ∧ w = w' := by
  generalize hR : resultF op k = R
  have HR := Lib.hid hR
  clear hR
  by_cases h0 : R = 0
  · have hF : Hid (secondF op k = 0) := by simp [Hid, secondF, HR.out, h0]
    have h0' : (R == 0) = true := by simp [h0]
    clear h0
    go_enter Tryd.func50, Tryd.ntmps50
    go_wp2_with (go_at_call 37; refine (Result_any _ _ _).mono ?_; rintro e w' ⟨rfl, rfl⟩; rw [HR.out])
    go_ret
    exact ⟨ret_int (by rw [hF.out]), rfl⟩
  · have hF : Hid (secondF op k = if op = 15 ∨ op = 16 ∨ op = 17 ∨ op = 18 then 2 else if op = 21 ∨ op = 22 ∨ op = 23 then 0 else k) := by simp [Hid, secondF, HR.out, h0]
    have h0' : (R == 0) = false := by simp [h0]
    clear h0
    go_enter Tryd.func50, Tryd.ntmps50
    go_wp2_with (go_at_call 37; refine (Result_any _ _ _).mono ?_; rintro e w' ⟨rfl, rfl⟩; rw [HR.out])
    all_goals go_ret
    all_goals exact ⟨ret_int (by rw [hF.out]; simp_all), rfl⟩

set_option maxRecDepth 100000 in
set_option maxHeartbeats 4000000 in
theorem SecondR_any (op k : Int) (w : World) : Calls Tryd.prog 35 #[.int .i64 op, .int .i64 k] w fun e w' => e = .returned (.int .i64 (secondF op k)) ∧ w = w' := by
  generalize hR : resultF op k = R
  have HR := Lib.hid hR
  clear hR
  by_cases h0 : R = 0
  · have hF : Hid (secondF op k = 0) := by simp [Hid, secondF, HR.out, h0]
    have h0' : (R == 0) = true := by simp [h0]
    clear h0
    go_enter Tryd.func35, Tryd.ntmps35
    go_wp2_with (go_at_call 24; refine (ResultR_any _ _ _).mono ?_; rintro e w' ⟨rfl, rfl⟩; rw [HR.out])
    go_ret
    exact ⟨ret_int (by rw [hF.out]), rfl⟩
  · have hF : Hid (secondF op k = if op = 15 ∨ op = 16 ∨ op = 17 ∨ op = 18 then 2 else if op = 21 ∨ op = 22 ∨ op = 23 then 0 else k) := by simp [Hid, secondF, HR.out, h0]
    have h23 : op ≤ 23 := by
      have h := HR.out
      unfold resultF at h
      split at h
      · omega
      · repeat (split at h <;> try omega)
    have h0' : (R == 0) = false := by simp [h0]
    clear h0
    go_enter Tryd.func35, Tryd.ntmps35
    go_wp2_with (go_at_call 24; refine (ResultR_any _ _ _).mono ?_; rintro e w' ⟨rfl, rfl⟩; rw [HR.out])
    all_goals go_ret
    all_goals exact ⟨ret_int (by rw [hF.out]; repeat' split; all_goals omega), rfl⟩
end Go.Proofs.YtiogcbckhaknmaaDoor.Cell
