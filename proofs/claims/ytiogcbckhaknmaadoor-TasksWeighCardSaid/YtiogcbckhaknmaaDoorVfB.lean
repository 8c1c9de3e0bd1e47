/-
  What an instruction takes off the stack and what it leaves: the reference's and the program's. No conditions.
-/
import Derived.Test.YtiogcbckhaknmaaDoorVp3
import Derived.Test.YtiogcbckhaknmaaDoorVf1
import Derived.Test.YtiogcbckhaknmaaDoorMem2
import Derived.Deep.DeepCutAuto
namespace Go.Proofs.YtiogcbckhaknmaaDoor.Vf
open Go.RowKit Go.Proofs.YtiogcbckhaknmaaDoor.W Go.Proofs.YtiogcbckhaknmaaDoor.Ints Go.Proofs.YtiogcbckhaknmaaDoor.Cod Go.Proofs.YtiogcbckhaknmaaDoor.Cell

abbrev IN.val (x : IN) : Value := .agg #[.int .i64 x.op, .int .i64 x.a, .int .i64 x.b, .int .i64 x.c]
set_option maxRecDepth 100000 in
set_option maxHeartbeats 6400000 in
theorem takes_any (x : IN) (w : World) : Calls Tryd.prog 27 #[IN.val x] w fun e w' => e = .returned (.int .i64 (takesF x)) ∧ Below w.heap.size w w' := by
  obtain ⟨xo, xa, xb, xc⟩ := x
  obtain ⟨R, hR⟩ : ∃ R, takesF ⟨xo, xa, xb, xc⟩ = R := ⟨_, rfl⟩
  rw [hR]
  have HR := Lib.hid hR
  clear hR
  go_enter Tryd.func27, Tryd.ntmps27
  go_upto_region 1 with fail
  have M0 := Lib.hid ((Mem.start w).alloc 50 #[.int .i64 xo, .int .i64 xa, .int .i64 xb, .int .i64 xc])
  generalize World.alloc _ _ = w1 at M0 ⊢
  generalize w.heap.size = gb at M0 ⊢
  have x0 : w1.cell? ⟨gb, 0, none⟩ = some (.int .i64 xo) := M0.out.cellK 0 rfl 0
  have x1 : w1.cell? ⟨gb, 1, none⟩ = some (.int .i64 xa) := M0.out.cellK 0 rfl 1
  have x2 : w1.cell? ⟨gb, 2, none⟩ = some (.int .i64 xb) := M0.out.cellK 0 rfl 2
  rcases dos xo with rfl | rfl | rfl | rfl | rfl | rfl | rfl | rfl | rfl | rfl | rfl | rfl | rfl | rfl | rfl | rfl | rfl | rfl | ⟨o1, o2, o3, o4, o5, o6, o7, o8, o9, o10, o11, o12, o13, o14, o15, o16, o17, o18⟩
  all_goals go_wp2_with (go_at_call 35; refine (SecondR_any xa xb w1).mono ?_; rintro e w3 ⟨rfl, rfl⟩; dsimp only)
  all_goals go_ret
  all_goals exact ⟨ret_int (by rw [← HR.out]; simp_all [takesF]), M0.out.bel⟩
set_option maxRecDepth 100000 in
set_option maxHeartbeats 6400000 in
theorem leaves_any (x : IN) (w : World) : Calls Tryd.prog 28 #[IN.val x] w fun e w' => e = .returned (.int .i64 (leavesF x)) ∧ Below w.heap.size w w' := by
  obtain ⟨xo, xa, xb, xc⟩ := x
  obtain ⟨R, hR⟩ : ∃ R, leavesF ⟨xo, xa, xb, xc⟩ = R := ⟨_, rfl⟩
  rw [hR]
  have HR := Lib.hid hR
  clear hR
  go_enter Tryd.func28, Tryd.ntmps28
  go_upto_region 1 with fail
  have M0 := Lib.hid ((Mem.start w).alloc 50 #[.int .i64 xo, .int .i64 xa, .int .i64 xb, .int .i64 xc])
  generalize World.alloc _ _ = w1 at M0 ⊢
  generalize w.heap.size = gb at M0 ⊢
  have x0 : w1.cell? ⟨gb, 0, none⟩ = some (.int .i64 xo) := M0.out.cellK 0 rfl 0
  rcases dos xo with rfl | rfl | rfl | rfl | rfl | rfl | rfl | rfl | rfl | rfl | rfl | rfl | rfl | rfl | rfl | rfl | rfl | rfl | ⟨o1, o2, o3, o4, o5, o6, o7, o8, o9, o10, o11, o12, o13, o14, o15, o16, o17, o18⟩
  all_goals go_wp2
  all_goals go_ret
  all_goals exact ⟨ret_int (by rw [← HR.out]; simp_all [leavesF]), M0.out.bel⟩
set_option maxRecDepth 100000 in
set_option maxHeartbeats 6400000 in
theorem effect_any (x : IN) (w : World) : Calls Tryd.prog 41 #[IN.val x] w fun e w' => e = .returned (.tuple #[.int .i64 (takesF x), .int .i64 (leavesF x)]) ∧ Below w.heap.size w w' := by
  obtain ⟨xo, xa, xb, xc⟩ := x
  obtain ⟨R, hR⟩ : ∃ R, takesF ⟨xo, xa, xb, xc⟩ = R := ⟨_, rfl⟩
  obtain ⟨Q, hQ⟩ : ∃ Q, leavesF ⟨xo, xa, xb, xc⟩ = Q := ⟨_, rfl⟩
  rw [hR, hQ]
  have HR := Lib.hid hR
  have HQ := Lib.hid hQ
  clear hR hQ
  go_enter Tryd.func41, Tryd.ntmps41
  go_upto_region 1 with fail
  have M0 := Lib.hid ((Mem.start w).alloc 50 #[.int .i64 xo, .int .i64 xa, .int .i64 xb, .int .i64 xc])
  generalize World.alloc _ _ = w1 at M0 ⊢
  generalize w.heap.size = gb at M0 ⊢
  have x0 : w1.cell? ⟨gb, 0, none⟩ = some (.int .i64 xo) := M0.out.cellK 0 rfl 0
  have x1 : w1.cell? ⟨gb, 1, none⟩ = some (.int .i64 xa) := M0.out.cellK 0 rfl 1
  have x2 : w1.cell? ⟨gb, 2, none⟩ = some (.int .i64 xb) := M0.out.cellK 0 rfl 2
  rcases dos xo with rfl | rfl | rfl | rfl | rfl | rfl | rfl | rfl | rfl | rfl | rfl | rfl | rfl | rfl | rfl | rfl | rfl | rfl | ⟨o1, o2, o3, o4, o5, o6, o7, o8, o9, o10, o11, o12, o13, o14, o15, o16, o17, o18⟩
  all_goals go_wp2_with (go_at_call 50; refine (Second_any xa xb w1).mono ?_; rintro e w3 ⟨rfl, rfl⟩; dsimp only)
  all_goals go_ret2
  all_goals refine ⟨?_, M0.out.bel⟩
  all_goals rw [← HR.out, ← HQ.out]
  all_goals simp_all [takesF, leavesF]
end Go.Proofs.YtiogcbckhaknmaaDoor.Vf
