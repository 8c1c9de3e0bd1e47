/-
  The law CellTexts answers true for every input, and its arguments read as they did. No conditions. (The frame is written by law.py, after the guide's proof-skeleton.)
-/
import Derived.Test.YtckjnlonijodcaaDoorTie
import Derived.Test.YtckjnlonijodcaaDoorCards
import Derived.Test.YtckjnlonijodcaaDoorLft
import Derived.Lay
import Derived.SevenTiedAt
import Derived.Stop.Joined
import Derived.Test.YtckjnlonijodcaaDoorRows
import Derived.Test.YtckjnlonijodcaaDoorTxK
import Derived.Test.YtckjnlonijodcaaDoorO
import Derived.ChangeOld
import Derived.Below
namespace Go.Proofs.YtckjnlonijodcaaDoor.lawCellTexts
open Go.ChangeShapes Go.WideShapes Go.ChangeAt Go.RowKit
set_option linter.unusedVariables false
theorem own : ownKnob Tryd.prog.godebug = none := by kernel_rfl
theorem laidOut : laidOutB Tryd.prog = true := by kernel_rfl
set_option maxRecDepth 100000 in
theorem lifted (os : Os) (started : os.Started) (H : Type) (enc : TypeId × Value → H) :
    ReturnsInHanded {} Tryd.checked os 3 .any (fun w args => (Rows.cellTextsSpec.pre enc Tryd.prog Tryd.f3 Rows.cellTextsRow.domain false w args ∧ laidMetH Tryd.prog Rows.cellTextsRow.laid w) ∧ sizedMet enc Tryd.prog Tryd.f3 (OpenSpec.ofChange Rows.cellTextsSpec) false w args) (Rows.cellTextsSpec.post enc Tryd.prog Tryd.f3 false true false false) := by
  refine W.lift_shaped (C := Tryd.checked) (X := fun w _ => laidMetH Tryd.prog Rows.cellTextsRow.laid w) (fun _ _ _ hh h => h.of_heap hh) own started (by kernel_rfl) Tryd.func3
    (ChangeSpec.witness_shaped (enc := enc) (C := Tryd.checked) (os := os) (X := fun w _ => laidMetH Tryd.prog Rows.cellTextsRow.laid w) false (World.laidAll Tryd.prog os Rows.cellTextsRow.laid) #[.int .i64 0, .int .i64 0, .string ByteArray.empty] 8 (World.laidAll_os _ _ _)
      (World.shaped_of_ZipB (by kernel_rfl) (by kernel_rfl)) (by kernel_rfl) (by kernel_rfl) (by kernel_rfl)
      (by rw [MakeChecks.laidMetH_plain _ _ _ (by kernel_rfl)]; exact laidMet_laidAll _ (by kernel_rfl) (by kernel_rfl))) ?_
  intro W base args ds gs before hval0 hW hsz0 hsh hL
  have hval : ∀ (j : Nat) t v, Tryd.f3.params[j]? = some t → args[j]? = some v → Value.okWide Tryd.prog W .any base t v := hval0
  have hsz1 : (DataW.weightsEach Tryd.prog (Tryd.f3.params.toList ++ Rows.cellTextsSpec.plain.varTypes Tryd.prog) (ds ++ gs)).all (· ≤ reachBytes) = true := hsz0
  have hW' := hW
  obtain ⟨p, q, hA0, hV, rfl, hfz, hnd⟩ := hW
  have hA : DataW.TrodAll enc Tryd.prog W 0 (fun _ => true) true Tryd.f3.params.toList args.toList ds p := hA0
  rw [Tryd.params3] at hA hval
  obtain ⟨v0, vs0, d0, ds0, p0, q0, hargs, rfl, rfl, h0, r0⟩ := trodAll_cons hA
  obtain ⟨v1, vs1, d1, ds1, p1, q1, rfl, rfl, rfl, h1, r1⟩ := trodAll_cons r0
  obtain ⟨v2, vs2, d2, ds2, p2, q2, rfl, rfl, rfl, h2, r2⟩ := trodAll_cons r1
  obtain ⟨rfl, rfl, rfl⟩ := trodAll_nil r2
  obtain rfl : args = #[v0, v1, v2] := by cases args; simp_all
  obtain ⟨rfl, rfl⟩ := trodVars_none hV
  have hsz : (DataW.weightsEach Tryd.prog [22, 3, 9] [d0, d1, d2]).all (· ≤ reachBytes) = true := hsz1
  have k0 := h0
  have lt0 : ∀ x ∈ p0, x.block < W.heap.size := by obtain ⟨m, hm⟩ := k0; exact DataW.trod_lt m _ _ _ hm
  have k1 := h1
  have lt1 : ∀ x ∈ p1, x.block < W.heap.size := by obtain ⟨m, hm⟩ := k1; exact DataW.trod_lt m _ _ _ hm
  have k2 := h2
  have lt2 : ∀ x ∈ p2, x.block < W.heap.size := by obtain ⟨m, hm⟩ := k2; exact DataW.trod_lt m _ _ _ hm
  obtain ⟨x0, rfl⟩ := okWide_int Tryd.underlying22 (hval 0 22 v0 rfl rfl)
  have o0 := O.Op.of (H := H) (ts := [22, 3, 9]) (ds := [d0, d1, d2]) (j := 0) h0 hsz rfl rfl
  obtain ⟨y0, hy0, hx0⟩ := O.Op.int o0 Tryd.underlying22
  have ey0 : x0 = y0 := by simpa [Value.cells] using hy0
  subst ey0
  obtain ⟨x1, rfl⟩ := okWide_int Tryd.underlying3 (hval 1 3 v1 rfl rfl)
  have o1 := O.Op.of (H := H) (ts := [22, 3, 9]) (ds := [d0, d1, d2]) (j := 1) h1 hsz rfl rfl
  obtain ⟨y1, hy1, hx1⟩ := O.Op.int o1 Tryd.underlying3
  have ey1 : x1 = y1 := by simpa [Value.cells] using hy1
  subst ey1
  obtain ⟨s2, rfl⟩ := okWide_string Tryd.underlying9 (hval 2 9 v2 rfl rfl)
  have o2 := O.Op.of (H := H) (ts := [22, 3, 9]) (ds := [d0, d1, d2]) (j := 2) h2 hsz rfl rfl
  obtain ⟨y2, hy2, hs2⟩ := O.Op.string o2 Tryd.underlying9
  have ey2 : s2 = y2 := by simpa [Value.cells] using hy2
  subst ey2
  clear hA0 hval0 hsz0 hsz1
  refine (Tx.walk_Texts H enc W hL x0 hx0 x1 hx1 s2 hs2).mono fun e W' ⟨he, bel⟩ => ?_
  subst he
  exact ⟨_, rfl, _, _, _, [], _, [], hW', trodAll_mk1 (shut_bool Tryd.underlying4 _), (trodAll_cons_mk (Below.trod laidOut (by kernel_rfl) (of_decide_eq_true (by kernel_rfl)) k0 bel lt0) (trodAll_cons_mk (Below.trod laidOut (by kernel_rfl) (of_decide_eq_true (by kernel_rfl)) k1 bel lt1) (trodAll_cons_mk (Below.trod laidOut (by kernel_rfl) (of_decide_eq_true (by kernel_rfl)) k2 bel lt2) trodAll_mk0))), rfl, bel.frame _, fun h => by cases h⟩
theorem over : Rows.cellTextsRow.holds Tryd.pinned (OpenSpec.ofChange Rows.cellTextsSpec) :=
  OpenClaim.holds_of_wide 3 Tryd.f3 rfl rfl rfl rfl rfl rfl rfl ⟨rfl, rfl, rfl, rfl, rfl⟩ rfl rfl rfl rfl rfl (by kernel_rfl) Tryd.func3 (by kernel_rfl)
    (of_decide_eq_true (by kernel_rfl)) (by unfold Func.isWrapper; first | (rw [if_pos (by decide +kernel)]; kernel_rfl) | (rw [if_neg (by decide +kernel)]; exact ⟨rfl, rfl⟩))
    (fun os started H enc _ => lifted os started H enc)

/-- THE STATEMENT -/
theorem proved : Rows.CellTextsCardSaid :=
  Claim7.holds_tied_plain_at .later [] [.data, .data, .data, .data, .pinned, .pinned] true (true, "258838133c9beab3ade0a01780a7ae097ed47f2a2ce82e44e026fc640cb046ef") false over (fun _ h => by cases h) (by kernel_rfl) (fun _ h => by cases h) cellTexts_row_tie rfl ⟨rfl, rfl⟩ (by kernel_rfl) rfl
    (fun f fn hf hfn => by
      obtain rfl : f = 3 := Option.some.inj ((show Tryd.prog.funcNamed "plantwright/plantwrightlaw.CellTexts" = some 3 by kernel_rfl).symm.trans hf) |>.symm
      obtain rfl : fn = Tryd.f3 := (Option.some.inj (Tryd.func3.symm.trans hfn)).symm
      exact ⟨by kernel_rfl, fun j t ht => by
        rw [Tryd.params3] at ht
        have hm : t ∈ [22, 3, 9] := by simpa using Array.mem_of_getElem? ht
        have hall : ([22, 3, 9].all fun u => !Tryd.prog.wantsStandIn u) = true := by kernel_rfl
        exact (show Tryd.prog.wantsStandIn t = false by simpa using List.all_eq_true.1 hall t hm)⟩)
    (by kernel_rfl)
#print axioms proved
end Go.Proofs.YtckjnlonijodcaaDoor.lawCellTexts
