/-
  The walks of the laws CellRing, CellDivides, CellTurns. No conditions.
-/
import Derived.Test.YtfdcgmcinkdlmaaCell8
import Derived.Test.YtfdcgmcinkdlmaaCell7
namespace Go.Proofs.Ytfdcgmcinkdlmaa.Cell
open Go.RowKit Go.Proofs.Ytfdcgmcinkdlmaa.W Go.Proofs.Ytfdcgmcinkdlmaa.Num

theorem drew_below (w : World) (q : Nat) : Below w.heap.size w (w.drewN q) := below_drewN (Below.refl _ _) q

set_option maxRecDepth 100000 in
set_option maxHeartbeats 4000000 in
theorem ring_k (dint : Bool) (k : Int) (hk : k = if dint then 3 else 2) (w : World) (a : Int) (a1 : -9223372036854775808 ≤ a) (a2 : a ≤ 9223372036854775807) (b : Int) (b1 : -9223372036854775808 ≤ b) (b2 : b ≤ 9223372036854775807) :
    Calls Try.prog 4 #[.bool dint, .int .i64 a, .int .i64 b] w fun e w' => e = .returned (.bool true) ∧ Below w.heap.size w w' := by
  have hk' : k = 2 ∨ k = 3 := by cases dint <;> simp_all
  have hadd := ring_add a b hk'
  have hsub := ring_sub a b hk'
  have hmul := ring_mul a b hk'
  have hone : doF 1 k 0 1 = (1, false) := by rcases hk' with rfl | rfl <;> decide
  have f1 := fits_wrap k (wrap64 (a + b)) hk'
  have f2 := fits_wrap k (wrap64 (a - b)) hk'
  have f3 := fits_wrap k (wrap64 (a * b)) hk'
  obtain ⟨s1, s2⟩ := wrap_bd k (wrap64 (a + b))
  obtain ⟨t1, t2⟩ := wrap_bd k (wrap64 (a - b))
  obtain ⟨u1, u2⟩ := wrap_bd k (wrap64 (a * b))
  generalize hS : wrapF k (wrap64 (a + b)) = S at *
  generalize hT : wrapF k (wrap64 (a - b)) = T at *
  generalize hU : wrapF k (wrap64 (a * b)) = U at *
  have HS := Lib.hid hS
  have HT := Lib.hid hT
  have HU := Lib.hid hU
  have HA := Lib.hid hadd
  have HB := Lib.hid hsub
  have HM := Lib.hid hmul
  have HO := Lib.hid hone
  have F1 := Lib.hid f1
  have F2 := Lib.hid f2
  have F3 := Lib.hid f3
  have w1 := wrap64_bd (a + b)
  have w2 := wrap64_bd (a - b)
  have w3 := wrap64_bd (a * b)
  have W1 := Lib.hid w1
  have W2 := Lib.hid w2
  have W3 := Lib.hid w3
  clear hS hT hU hadd hsub hmul hone f1 f2 f3 w1 w2 w3 hk'
  cases dint
  all_goals simp only [Bool.false_eq_true, if_false, if_true] at hk
  all_goals subst hk
  all_goals go_enter Try.func4, Try.ntmps4
  all_goals go_wp2_with fail
  all_goals refine (Do_any 1 _ a b _ a1 a2 b1 b2).mono ?_
  all_goals rintro e w' ⟨rfl, q1, rfl⟩
  all_goals rw [HA.out]
  all_goals go_wp2_with fail
  all_goals refine (Do_any 2 _ a b _ a1 a2 b1 b2).mono ?_
  all_goals rintro e w' ⟨rfl, q2, rfl⟩
  all_goals rw [HB.out]
  all_goals go_wp2_with fail
  all_goals refine (Do_any 3 _ a b _ a1 a2 b1 b2).mono ?_
  all_goals rintro e w' ⟨rfl, q3, rfl⟩
  all_goals rw [HM.out]
  all_goals go_wp2_with fail
  all_goals refine (Do_any 1 _ 0 1 _ (by omega) (by omega) (by omega) (by omega)).mono ?_
  all_goals rintro e w' ⟨rfl, q4, rfl⟩
  all_goals rw [HO.out]
  all_goals go_wp2_with fail
  all_goals refine (Wrap_any _ (wrap64 (a + b)) _ W1.out.1 W1.out.2).mono ?_
  all_goals rintro e w' ⟨rfl, rfl⟩
  all_goals rw [HS.out]
  all_goals go_wp2_with fail
  all_goals refine (Wrap_any _ (wrap64 (a - b)) _ W2.out.1 W2.out.2).mono ?_
  all_goals rintro e w' ⟨rfl, rfl⟩
  all_goals rw [HT.out]
  all_goals go_wp2_with fail
  all_goals refine (Wrap_any _ (wrap64 (a * b)) _ W3.out.1 W3.out.2).mono ?_
  all_goals rintro e w' ⟨rfl, rfl⟩
  all_goals rw [HU.out]
  all_goals go_wp2_with fail
  all_goals refine (Fits_any _ S _ (by omega) (by omega)).mono ?_
  all_goals rintro e w' ⟨rfl, rfl⟩
  all_goals rw [F1.out]
  all_goals go_wp2_with fail
  all_goals refine (Fits_any _ T _ (by omega) (by omega)).mono ?_
  all_goals rintro e w' ⟨rfl, rfl⟩
  all_goals rw [F2.out]
  all_goals go_wp2_with fail
  all_goals refine (Fits_any _ U _ (by omega) (by omega)).mono ?_
  all_goals rintro e w' ⟨rfl, rfl⟩
  all_goals rw [F3.out]
  all_goals go_wp2
  all_goals go_ret
  all_goals exact ⟨rfl, drew_below _ _⟩

theorem walk_Ring (H : Type) (_enc : TypeId × Value → H) (w : World) (dint : Bool) (a : Int) (h1 : (Lit.int .i64 a).wf = true) (b : Int) (h2 : (Lit.int .i64 b).wf = true) :
    Calls Try.prog 4 #[.bool dint, .int .i64 a, .int .i64 b] w fun e w' => e = .returned (.bool true) ∧ Below w.heap.size w w' :=
  ring_k dint _ rfl w a (wf_i64 h1).1 (wf_i64 h1).2 b (wf_i64 h2).1 (wf_i64 h2).2

set_option maxRecDepth 100000 in
set_option maxHeartbeats 4000000 in
theorem div_zero (dint : Bool) (k : Int) (hk : k = if dint then 3 else 2) (w : World) (a : Int) (a1 : -9223372036854775808 ≤ a) (a2 : a ≤ 9223372036854775807) (b : Int) (b1 : -9223372036854775808 ≤ b) (b2 : b ≤ 9223372036854775807) (hz : wrapF k b = 0) :
    Calls Try.prog 5 #[.bool dint, .int .i64 a, .int .i64 b] w fun e w' => e = .returned (.bool true) ∧ Below w.heap.size w w' := by
  have hk' : k = 2 ∨ k = 3 := by cases dint <;> simp_all
  have hd := do_div a b hk'
  have hm := do_mod a b hk'
  rw [if_pos hz] at hd hm
  have HD := Lib.hid hd
  have HM := Lib.hid hm
  have HZ := Lib.hid hz
  clear hd hm hz hk'
  cases dint
  all_goals simp only [Bool.false_eq_true, if_false, if_true] at hk
  all_goals subst hk
  all_goals go_enter Try.func5, Try.ntmps5
  all_goals go_wp2_with fail
  all_goals refine (Do_any 4 _ a b _ a1 a2 b1 b2).mono ?_
  all_goals rintro e w' ⟨rfl, q1, rfl⟩
  all_goals rw [HD.out]
  all_goals go_wp2_with fail
  all_goals refine (Do_any 5 _ a b _ a1 a2 b1 b2).mono ?_
  all_goals rintro e w' ⟨rfl, q2, rfl⟩
  all_goals rw [HM.out]
  all_goals go_wp2_with fail
  all_goals refine (Wrap_any _ b _ b1 b2).mono ?_
  all_goals rintro e w' ⟨rfl, rfl⟩
  all_goals rw [HZ.out]
  all_goals go_wp2
  all_goals go_ret
  all_goals exact ⟨rfl, drew_below _ _⟩

set_option maxRecDepth 100000 in
set_option maxHeartbeats 4000000 in
theorem div_k (dint : Bool) (k : Int) (hk : k = if dint then 3 else 2) (w : World) (a : Int) (a1 : -9223372036854775808 ≤ a) (a2 : a ≤ 9223372036854775807) (b : Int) (b1 : -9223372036854775808 ≤ b) (b2 : b ≤ 9223372036854775807) (hz : ¬ wrapF k b = 0) :
    Calls Try.prog 5 #[.bool dint, .int .i64 a, .int .i64 b] w fun e w' => e = .returned (.bool true) ∧ Below w.heap.size w w' := by
  have hk' : k = 2 ∨ k = 3 := by cases dint <;> simp_all
  have hd := do_div a b hk'
  have hm := do_mod a b hk'
  rw [if_neg hz] at hd hm
  have hback := div_back a b hk'
  obtain ⟨q1, q2⟩ := wrap_bd k ((wrapF k a).tdiv (wrapF k b))
  obtain ⟨r1, r2⟩ := wrap_bd k ((wrapF k a).tmod (wrapF k b))
  have f1 := fits_wrap k ((wrapF k a).tdiv (wrapF k b)) hk'
  have f2 := fits_wrap k ((wrapF k a).tmod (wrapF k b)) hk'
  generalize hQ : wrapF k ((wrapF k a).tdiv (wrapF k b)) = Q at *
  generalize hR : wrapF k ((wrapF k a).tmod (wrapF k b)) = R at *
  have hmul := do_mul Q b hk'
  obtain ⟨m1, m2⟩ := wrap_bd k (wrap64 (wrapF k Q * wrapF k b))
  have hadd := do_add (wrapF k (wrap64 (wrapF k Q * wrapF k b))) R hk'
  rw [wrap_wrap _ _ hk', hback] at hadd
  generalize hM : wrapF k (wrap64 (wrapF k Q * wrapF k b)) = M at *
  have hzb : (wrapF k b == 0) = false := by simp [hz]
  generalize hB : wrapF k b = B at *
  generalize hA : wrapF k a = A at *
  have HD := Lib.hid hd
  have HM := Lib.hid hm
  have HU := Lib.hid hmul
  have HAD := Lib.hid hadd
  have HB := Lib.hid hB
  have HA := Lib.hid hA
  have F1 := Lib.hid f1
  have F2 := Lib.hid f2
  clear hd hm hmul hadd hB hA f1 f2 hback hQ hR hM hz hk'
  cases dint
  all_goals simp only [Bool.false_eq_true, if_false, if_true] at hk
  all_goals subst hk
  all_goals go_enter Try.func5, Try.ntmps5
  all_goals go_wp2_with fail
  all_goals refine (Do_any 4 _ a b _ a1 a2 b1 b2).mono ?_
  all_goals rintro e w' ⟨rfl, n1, rfl⟩
  all_goals rw [HD.out]
  all_goals go_wp2_with fail
  all_goals refine (Do_any 5 _ a b _ a1 a2 b1 b2).mono ?_
  all_goals rintro e w' ⟨rfl, n2, rfl⟩
  all_goals rw [HM.out]
  all_goals go_wp2_with fail
  all_goals refine (Wrap_any _ b _ b1 b2).mono ?_
  all_goals rintro e w' ⟨rfl, rfl⟩
  all_goals rw [HB.out]
  all_goals go_wp2_with fail
  all_goals refine (Do_any 3 _ Q b _ (by omega) (by omega) b1 b2).mono ?_
  all_goals rintro e w' ⟨rfl, n3, rfl⟩
  all_goals rw [HU.out]
  all_goals go_wp2_with fail
  all_goals refine (Do_any 1 _ M R _ (by omega) (by omega) (by omega) (by omega)).mono ?_
  all_goals rintro e w' ⟨rfl, n4, rfl⟩
  all_goals rw [HAD.out]
  all_goals go_wp2_with fail
  all_goals refine (Wrap_any _ a _ a1 a2).mono ?_
  all_goals rintro e w' ⟨rfl, rfl⟩
  all_goals rw [HA.out]
  all_goals go_wp2_with fail
  all_goals refine (Fits_any _ Q _ (by omega) (by omega)).mono ?_
  all_goals rintro e w' ⟨rfl, rfl⟩
  all_goals rw [F1.out]
  all_goals go_wp2_with fail
  all_goals refine (Fits_any _ R _ (by omega) (by omega)).mono ?_
  all_goals rintro e w' ⟨rfl, rfl⟩
  all_goals rw [F2.out]
  all_goals go_wp2
  all_goals go_ret
  all_goals exact ⟨rfl, drew_below _ _⟩

theorem walk_Divides (H : Type) (_enc : TypeId × Value → H) (w : World) (dint : Bool) (a : Int) (h1 : (Lit.int .i64 a).wf = true) (b : Int) (h2 : (Lit.int .i64 b).wf = true) :
    Calls Try.prog 5 #[.bool dint, .int .i64 a, .int .i64 b] w fun e w' => e = .returned (.bool true) ∧ Below w.heap.size w w' := by
  by_cases hz : wrapF (if dint then 3 else 2) b = 0
  · exact div_zero dint _ rfl w a (wf_i64 h1).1 (wf_i64 h1).2 b (wf_i64 h2).1 (wf_i64 h2).2 hz
  · exact div_k dint _ rfl w a (wf_i64 h1).1 (wf_i64 h1).2 b (wf_i64 h2).1 (wf_i64 h2).2 hz

set_option maxRecDepth 100000 in
set_option maxHeartbeats 4000000 in
theorem walk_Turns (H : Type) (_enc : TypeId × Value → H) (w : World) (a : Int) (h1 : (Lit.int .i64 a).wf = true) (b : Int) (h2 : (Lit.int .i64 b).wf = true) :
    Calls Try.prog 6 #[.int .i64 a, .int .i64 b] w fun e w' => e = .returned (.bool true) ∧ Below w.heap.size w w' := by
  obtain ⟨a1, a2⟩ := wf_i64 h1
  obtain ⟨b1, b2⟩ := wf_i64 h2
  have hl := do_rol a b
  have hx : (a % 65536).toNat < 65536 := by omega
  have hlt := rot_lt ((wrapF 2 b).toNat % 16) hx
  have hback := rot_back (a % 65536).toNat ((wrapF 2 b).toNat % 16) hx (by omega)
  generalize rotN (a % 65536).toNat ((wrapF 2 b).toNat % 16) = L at hl hlt hback
  have hr := do_ror (L : Int) b
  rw [show ((L : Int) % 65536).toNat = L from by omega, hback] at hr
  have hup := do_up a
  have hul : (a % 65536).toNat * 16 % 65536 < 65536 := by omega
  have hde : (a % 65536).toNat * 16 % 65536 / 16 = (a % 65536).toNat % 4096 := by omega
  generalize (a % 65536).toNat * 16 % 65536 = U at hup hul hde
  have hdown := do_down U hul
  rw [hde] at hdown
  have hlow := do_low a
  have hwrap := word_in a
  have hfit := fits_low a
  have hfb := bits_bd .and a 65535
  generalize (a % 65536).toNat % 4096 = D at hdown hlow
  generalize (a % 65536).toNat = X at hr hwrap
  generalize hV : bits .and .i64 a 65535 = V at hfit hfb
  obtain ⟨v1, v2⟩ := hfb
  have HL := Lib.hid hl
  have HR := Lib.hid hr
  have HU := Lib.hid hup
  have HD := Lib.hid hdown
  have HW := Lib.hid hlow
  have HX := Lib.hid hwrap
  have HF := Lib.hid hfit
  clear hl hr hup hdown hlow hwrap hfit hback hde h1 h2
  go_enter Try.func6, Try.ntmps6
  go_wp2_with fail
  refine (Do_any 17 4 a b _ a1 a2 b1 b2).mono ?_
  rintro e w' ⟨rfl, n1, rfl⟩
  rw [HL.out]
  go_wp2_with fail
  refine (Do_any 18 4 L b _ (by omega) (by omega) b1 b2).mono ?_
  rintro e w' ⟨rfl, n2, rfl⟩
  rw [HR.out]
  go_wp2_with fail
  refine (Do_any 15 4 a 4 _ a1 a2 (by omega) (by omega)).mono ?_
  rintro e w' ⟨rfl, n3, rfl⟩
  rw [HU.out]
  go_wp2_with fail
  refine (Do_any 16 4 U 4 _ (by omega) (by omega) (by omega) (by omega)).mono ?_
  rintro e w' ⟨rfl, n4, rfl⟩
  rw [HD.out]
  go_wp2_with fail
  refine (Do_any 6 4 a 4095 _ a1 a2 (by omega) (by omega)).mono ?_
  rintro e w' ⟨rfl, n5, rfl⟩
  rw [HW.out]
  go_wp2_with fail
  refine (Wrap_any 4 a _ a1 a2).mono ?_
  rintro e w' ⟨rfl, rfl⟩
  rw [HX.out]
  go_wp2_with fail
  refine (Fits_any 4 V _ v1 v2).mono ?_
  rintro e w' ⟨rfl, rfl⟩
  rw [HF.out]
  go_wp2
  go_ret
  exact ⟨rfl, drew_below _ _⟩
end Go.Proofs.Ytfdcgmcinkdlmaa.Cell
