/-
  The walk of the law CellDoes. No conditions.
-/
import Derived.Test.YtfdcgmcinkdlmaaCell6
import Derived.Test.YtfdcgmcinkdlmaaO
namespace Go.Proofs.Ytfdcgmcinkdlmaa.Cell
open Go.RowKit Go.Proofs.Ytfdcgmcinkdlmaa.W Go.Proofs.Ytfdcgmcinkdlmaa.Num

theorem wf_i64 {n : Int} (h : (Lit.int .i64 n).wf = true) : -9223372036854775808 ≤ n ∧ n ≤ 9223372036854775807 := by
  simpa [Lit.wf, IntKind.min, IntKind.max, IntKind.signed, IntKind.bits] using h

set_option maxRecDepth 100000 in
set_option maxHeartbeats 4000000 in
theorem walk_Does (H : Type) (_enc : TypeId × Value → H) (w : World) (op : Int) (_h0 : (Lit.int .i64 op).wf = true) (k : Int) (_h1 : (Lit.int .i64 k).wf = true) (to : Int) (_h2 : (Lit.int .i64 to).wf = true) (a : Int) (h3 : (Lit.int .i64 a).wf = true) (b : Int) (h4 : (Lit.int .i64 b).wf = true) :
    Calls Try.prog 7 #[.int .i64 op, .int .i64 k, .int .i64 to, .int .i64 a, .int .i64 b] w fun e w' => e = .returned (.bool true) ∧ Below w.heap.size w w' := by
  obtain ⟨a1, a2⟩ := wf_i64 h3
  obtain ⟨b1, b2⟩ := wf_i64 h4
  clear h3 h4
  generalize hF : doF op k a b = F
  have HF := Lib.hid hF
  clear hF
  go_enter Try.func7, Try.ntmps7
  go_wp2_with fail
  refine (Do_any op k a b _ a1 a2 b1 b2).mono ?_
  rintro e w' ⟨rfl, q, rfl⟩
  rw [HF.out]
  go_wp2_with fail
  refine (DoR_any op k a b _).mono ?_
  rintro e w' ⟨rfl, rfl⟩
  rw [HF.out]
  go_wp2_with (first | (go_at_call 15; refine (Fits_any k a _ a1 a2).mono ?_; rintro e w' ⟨rfl, rfl⟩) | (go_at_call 17; refine (FitsR_any k a _).mono ?_; rintro e w' ⟨rfl, rfl⟩) | (go_at_call 14; refine (Wrap_any k a _ a1 a2).mono ?_; rintro e w' ⟨rfl, rfl⟩) | (go_at_call 18; refine (WrapR_any k a _).mono ?_; rintro e w' ⟨rfl, rfl⟩) | (go_at_call 19; refine (Result_any op k _).mono ?_; rintro e w' ⟨rfl, rfl⟩) | (go_at_call 20; refine (ResultR_any op k _).mono ?_; rintro e w' ⟨rfl, rfl⟩) | (go_at_call 21; refine (Second_any op k _).mono ?_; rintro e w' ⟨rfl, rfl⟩) | (go_at_call 22; refine (SecondR_any op k _).mono ?_; rintro e w' ⟨rfl, rfl⟩) | (go_at_call 23; refine (Convert_any k to a _ a1 a2).mono ?_; rintro e w' ⟨rfl, rfl⟩) | (go_at_call 24; refine (ConvertR_any k to a _).mono ?_; rintro e w' ⟨rfl, rfl⟩))
  all_goals go_ret
  all_goals exact ⟨by simp, below_drewN (Below.refl _ _) _⟩
end Go.Proofs.Ytfdcgmcinkdlmaa.Cell
