/-
  The law SafetyVotes answers true for every input, and its arguments read as they did. No conditions. (The frame is written by law.py, after the guide's proof-skeleton.)
-/
import Derived.Test.YtdofkakbfolpkaaRows
import Derived.Test.YtdofkakbfolpkaaSv3
import Derived.Test.YtdofkakbfolpkaaO
import Derived.ChangeOld
import Derived.Below
namespace Go.Proofs.Ytdofkakbfolpkaa.lawSafetyVotes
open Go.ChangeShapes Go.WideShapes Go.ChangeAt Go.RowKit
set_option linter.unusedVariables false
theorem own : ownKnob Try.prog.godebug = none := by kernel_rfl
theorem laidOut : laidOutB Try.prog = true := by kernel_rfl
set_option maxRecDepth 100000 in
theorem lifted (os : Os) (started : os.Started) (H : Type) (enc : TypeId × Value → H) :
    ReturnsInHanded {} Try.checked os 6 .any (Rows.safetyVotesSpec.pre6 enc Try.prog Try.f6 Rows.safetyVotesRow.domain false) (Rows.safetyVotesSpec.post enc Try.prog Try.f6 false true false false) := by
  refine returnsInHanded_of_change_sized (C := Try.checked) own started (by kernel_rfl) Try.func6
    (ChangeSpec.witness6 (enc := enc) (C := Try.checked) false ⟨#[], #[.slice none 0 0, .int .i64 0, .slice none 0 0, .slice none 0 0], []⟩ 8 (by kernel_rfl) (by kernel_rfl) (by kernel_rfl) (by kernel_rfl)) ?_
  intro W base args ds gs before hval0 hW hcnd hsz0 _
  have hval : ∀ (j : Nat) t v, Try.f6.params[j]? = some t → args[j]? = some v → Value.okWide Try.prog W .any base t v := hval0
  have hsz1 : (DataW.weightsEach Try.prog (Try.f6.params.toList ++ Rows.safetyVotesSpec.plain.varTypes Try.prog) (ds ++ gs)).all (· ≤ reachBytes) = true := hsz0
  have hW' := hW
  obtain ⟨p, q, hA0, hV, rfl, hfz, hnd⟩ := hW
  have hA : DataW.TrodAll enc Try.prog W 0 (fun _ => true) true Try.f6.params.toList args.toList ds p := hA0
  rw [Try.params6] at hA hval
  obtain ⟨v0, vs0, d0, ds0, p0, q0, hargs, rfl, rfl, h0, r0⟩ := trodAll_cons hA
  obtain ⟨v1, vs1, d1, ds1, p1, q1, rfl, rfl, rfl, h1, r1⟩ := trodAll_cons r0
  obtain ⟨v2, vs2, d2, ds2, p2, q2, rfl, rfl, rfl, h2, r2⟩ := trodAll_cons r1
  obtain ⟨v3, vs3, d3, ds3, p3, q3, rfl, rfl, rfl, h3, r3⟩ := trodAll_cons r2
  obtain ⟨rfl, rfl, rfl⟩ := trodAll_nil r3
  obtain rfl : args = #[v0, v1, v2, v3] := by cases args; simp_all
  obtain ⟨rfl, rfl⟩ := trodVars_none hV
  have hsz : (DataW.weightsEach Try.prog [42, 3, 43, 26] [d0, d1, d2, d3]).all (· ≤ reachBytes) = true := hsz1
  have k0 := h0
  have lt0 : ∀ x ∈ p0, x.block < W.heap.size := by obtain ⟨m, hm⟩ := k0; exact DataW.trod_lt m _ _ _ hm
  have k1 := h1
  have lt1 : ∀ x ∈ p1, x.block < W.heap.size := by obtain ⟨m, hm⟩ := k1; exact DataW.trod_lt m _ _ _ hm
  have k2 := h2
  have lt2 : ∀ x ∈ p2, x.block < W.heap.size := by obtain ⟨m, hm⟩ := k2; exact DataW.trod_lt m _ _ _ hm
  have k3 := h3
  have lt3 : ∀ x ∈ p3, x.block < W.heap.size := by obtain ⟨m, hm⟩ := k3; exact DataW.trod_lt m _ _ _ hm
  obtain ⟨A0, n0, c0, rfl⟩ := okWide_slice Try.underlying42 (hval 0 42 v0 rfl rfl)
  have o0 : O.Op enc Try.prog W 42 [.slice A0 n0 c0] := O.Op.of (H := H) (ts := [42, 3, 43, 26]) (ds := [d0, d1, d2, d3]) (j := 0) h0 hsz rfl rfl
  obtain ⟨x1, rfl⟩ := okWide_int Try.underlying3 (hval 1 3 v1 rfl rfl)
  have o1 := O.Op.of (H := H) (ts := [42, 3, 43, 26]) (ds := [d0, d1, d2, d3]) (j := 1) h1 hsz rfl rfl
  obtain ⟨y1, hy1, hx1⟩ := O.Op.int o1 Try.underlying3
  have ey1 : x1 = y1 := by simpa [Value.cells] using hy1
  subst ey1
  obtain ⟨A2, n2, c2, rfl⟩ := okWide_slice Try.underlying43 (hval 2 43 v2 rfl rfl)
  have o2 : O.Op enc Try.prog W 43 [.slice A2 n2 c2] := O.Op.of (H := H) (ts := [42, 3, 43, 26]) (ds := [d0, d1, d2, d3]) (j := 2) h2 hsz rfl rfl
  obtain ⟨A3, n3, c3, rfl⟩ := okWide_slice Try.underlying26 (hval 3 26 v3 rfl rfl)
  have o3 : O.Op enc Try.prog W 26 [.slice A3 n3 c3] := O.Op.of (H := H) (ts := [42, 3, 43, 26]) (ds := [d0, d1, d2, d3]) (j := 3) h3 hsz rfl rfl
  clear hA0 hval0 hsz0 hsz1
  refine (Sf.walk_Votes H enc W A0 n0 c0 o0 x1 hx1 A2 n2 c2 o2 A3 n3 c3 o3).mono fun e W' ⟨he, bel⟩ => ?_
  subst he
  exact ⟨_, rfl, _, _, _, [], _, [], hW', trodAll_mk1 (shut_bool Try.underlying4 _), (trodAll_cons_mk (Below.trod laidOut (by kernel_rfl) (of_decide_eq_true (by kernel_rfl)) k0 bel lt0) (trodAll_cons_mk (Below.trod laidOut (by kernel_rfl) (of_decide_eq_true (by kernel_rfl)) k1 bel lt1) (trodAll_cons_mk (Below.trod laidOut (by kernel_rfl) (of_decide_eq_true (by kernel_rfl)) k2 bel lt2) (trodAll_cons_mk (Below.trod laidOut (by kernel_rfl) (of_decide_eq_true (by kernel_rfl)) k3 bel lt3) trodAll_mk0)))), rfl, bel.frame _, fun h => by cases h⟩
theorem over : Rows.safetyVotesRow.holds Try.pinned (OpenSpec.ofChange Rows.safetyVotesSpec) :=
  OpenClaim.holds_of_wide 6 Try.f6 rfl rfl rfl rfl rfl rfl rfl ⟨rfl, rfl, rfl, rfl, rfl⟩ rfl rfl rfl rfl rfl (by kernel_rfl) Try.func6 (by kernel_rfl)
    (of_decide_eq_true (by kernel_rfl)) (by unfold Func.isWrapper; first | (rw [if_pos (by decide +kernel)]; kernel_rfl) | (rw [if_neg (by decide +kernel)]; exact ⟨rfl, rfl⟩))
    (fun os started H enc _ => lifted os started H enc)

/-- THE STATEMENT -/
theorem proved : Rows.SafetyVotesSaid := over
#print axioms proved
end Go.Proofs.Ytdofkakbfolpkaa.lawSafetyVotes
