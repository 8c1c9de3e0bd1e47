/-
  Both Weigh and the law TasksWeigh. Conditions: the code reads, within the reach.
-/
import Derived.Test.YtiogcbckhaknmaaDoorVfL
namespace Go.Proofs.YtiogcbckhaknmaaDoor.Vf
open Go.RowKit Go.Proofs.YtiogcbckhaknmaaDoor.W Go.Proofs.YtiogcbckhaknmaaDoor.Ints Go.Proofs.YtiogcbckhaknmaaDoor.Cod Go.Proofs.YtiogcbckhaknmaaDoor.Cell

theorem out_bs {ps : List PD} {o : VO} (h : Out ps o) : BsOk o.bs := by
  cases h with
  | all bs h hv => exact ver_bs hv (Nat.le_refl _)
  | _ => intro b hb; cases hb
/-- what Weigh answers -/
def weighF (o : VO) (unit step : Int) : Int × Int :=
  if step < 1 ∨ 1000 < step then (0, 4) else if o.code ≠ 0 then (0, 12) else if unit < 0 ∨ (o.bs.length : Int) ≤ unit then (0, 6) else (((o.bs.getD unit.toNat 0 : Nat) * step + 999) / 1000, 0)
set_option maxRecDepth 100000 in
set_option maxHeartbeats 25600000 in
theorem Weigh_any (A : Option Addr) (N c : Nat) (vs : List PV) (ps : List PD) (unit step : Int) (m : Int) (w : World) (hC : CRd w A N vs ps) (hok : ∀ p ∈ ps, p.ok) (hN : N * 96 ≤ 140737488351232) (hu : I64 unit) (hs : I64 step) (hm : w.cell? ⟨0, 0, none⟩ = some (.int .i64 m)) (o : VO) (hO : Out ps o) :
    Calls Tryd.prog 13 #[.agg #[.slice A N c], .int .i64 unit, .int .i64 step] w fun e w' => e = .returned (.tuple #[.int .i64 (weighF o unit step).1, .int .i64 (weighF o unit step).2]) ∧ Below w.heap.size w w' := by
  have HM : Hid (∀ w', Below w.heap.size w w' → w'.cell? ⟨0, 0, none⟩ = some (.int .i64 m)) := Lib.hid fun w' h => (h.cell (lt_of_cell hm)).trans hm
  have HC := Lib.hid hC
  have HOK := Lib.hid hok
  have HOUT := Lib.hid hO
  have HUS := Lib.hid (And.intro hu hs)
  clear hC hok hm hO
  go_enter Tryd.func13, Tryd.ntmps13
  obtain ⟨s1, s2⟩ := hs
  obtain ⟨u1, u2⟩ := hu
  go_upto_region 1 with fail
  have M0 := Lib.hid ((Mem.start w).alloc 24 #[.slice A N c])
  generalize World.alloc _ _ = w1 at M0 ⊢
  generalize w.heap.size = gb at M0 ⊢
  have BF := Lib.hid M0.out.bel
  have x0 : w1.cell? ⟨gb, 0, none⟩ = some (.slice A N c) := M0.out.cellK 0 rfl 0
  by_cases h1 : step < 1
  · have HW : Hid (weighF o unit step = (0, 4)) := Lib.hid (if_pos (.inl h1))
    go_wp2
    go_ret2
    exact ⟨by rw [HW.out]; rfl, BF.out⟩
  by_cases h2 : 1000 < step
  · have HW : Hid (weighF o unit step = (0, 4)) := Lib.hid (if_pos (.inr h2))
    go_wp2
    go_ret2
    exact ⟨by rw [HW.out]; rfl, BF.out⟩
  have HS : Hid (¬ (step < 1 ∨ 1000 < step)) := Lib.hid (by omega)
  go_wp2_with fail
  refine (Verify_any A N c vs ps m w1 (HC.out.below M0.out.bel) HOK.out hN (HM.out _ M0.out.bel)).mono ?_
  rintro e w2 ⟨o2, hO, B, d, rfl, hm2⟩
  have ee := out_uniq HOUT.out hO
  subst ee
  dsimp only
  have hbs := out_bs hO
  have HBS := Lib.hid hbs
  have hol := out_len hO
  obtain ⟨on, hon⟩ : ∃ on, o.bs.length = on := ⟨_, rfl⟩
  rw [hon] at hm2 hol ⊢
  have HON := Lib.hid hon
  have M1 := Lib.hid (hm2.alloc 28 #[.int .i64 o.code, .int .i64 o.unit, .int .i64 0])
  have B12 := Lib.hid (M0.out.bel)
  clear hO hm2 hon hbs x0 BF
  go_upto_region 4 with fail
  generalize World.alloc _ _ = w3 at M1 ⊢
  generalize w2.heap.size = g2 at M1 ⊢
  have z0 : w3.cell? ⟨g2, 0, none⟩ = some (.int .i64 o.code) := M1.out.cellK 0 rfl 0
  have BF : Hid (Below w.heap.size w w3) := Lib.hid (M0.out.bel.trans (M1.out.bel.mono M0.out.bel.size))
  by_cases hc : o.code = 0
  · have zc : (o.code != 0) = false := by simp [hc]
    have HCC := Lib.hid hc
    clear hc
    by_cases hu0 : unit < 0
    · have HW : Hid (weighF o unit step = (0, 6)) := Lib.hid (by unfold weighF; rw [if_neg HS.out, if_neg (by simp [HCC.out]), if_pos (.inl hu0)])
      go_wp2
      go_ret2
      exact ⟨by rw [HW.out]; rfl, BF.out⟩
    by_cases hu1 : (on : Int) ≤ unit
    · have HW : Hid (weighF o unit step = (0, 6)) := Lib.hid (by unfold weighF; rw [if_neg HS.out, if_neg (by simp [HCC.out]), if_pos (.inr (by rw [HON.out]; exact hu1))])
      go_wp2
      go_ret2
      exact ⟨by rw [HW.out]; rfl, BF.out⟩
    obtain ⟨un, rfl⟩ : ∃ un : Nat, unit = (un : Int) := ⟨unit.toNat, by omega⟩
    have hun : un < on := by omega
    have huni : (un : Int) < (on : Int) := by omega
    obtain ⟨b, o5, rfl, hcell⟩ := nat_at (M1.out.rdO 0 rfl) hun
    have hbd : o.bs.getD un 0 ≤ 1000000000 := by
      have h := HBS.out (o.bs.getD un 0) (by rw [List.getD_eq_getElem?_getD, List.getElem?_eq_getElem (by rw [HON.out]; exact hun)]; exact List.getElem_mem _)
      unfold lidN at h
      omega
    have HW : Hid (weighF o un step = (((o.bs.getD un 0 : Nat) * step + 999) / 1000, 0)) := Lib.hid (by unfold weighF; rw [if_neg HS.out, if_neg (by simp [HCC.out]), if_neg (by rw [HON.out]; omega)]; rfl)
    obtain ⟨bd, hbde⟩ : ∃ bd, o.bs.getD un 0 = bd := ⟨_, rfl⟩
    rw [hbde] at hcell hbd HW
    have hp0 : (0 : Int) ≤ (bd : Int) * step := Int.mul_nonneg (by omega) (by omega)
    have hp1 : (bd : Int) * step ≤ 1000000000000 := by
      have h3 : (bd : Int) * step ≤ 1000000000 * 1000 := Int.mul_le_mul (by omega) (by omega) (by omega) (by omega)
      omega
    obtain ⟨pr, hpr⟩ : ∃ pr, (bd : Int) * step = pr := ⟨_, rfl⟩
    rw [hpr] at hp0 hp1 HW
    have HD : Hid ((pr + 999).tdiv 1000 = (pr + 999) / 1000) := Lib.hid (Int.tdiv_eq_ediv_of_nonneg (by omega))
    have HE : Hid (pr.tdiv 1000 = pr / 1000) := Lib.hid (Int.tdiv_eq_ediv_of_nonneg (by omega))
    have HT : Hid (pr.tmod 1000 = pr % 1000) := Lib.hid (Int.tmod_eq_emod_of_nonneg (by omega))
    clear hbde M1
    go_wp2
    go_ret2
    refine ⟨?_, BF.out⟩
    rw [HW.out]
    first | rfl | (simp [HD.out]; done) | (rw [HD.out])
  · have zc : (o.code != 0) = true := by simp [hc]
    have HW : Hid (weighF o unit step = (0, 12)) := Lib.hid (by unfold weighF; rw [if_neg HS.out, if_pos hc])
    clear hc
    go_wp2
    go_ret2
    exact ⟨by rw [HW.out]; rfl, BF.out⟩
set_option maxRecDepth 100000 in
set_option maxHeartbeats 25600000 in
theorem WeighR_any (A : Option Addr) (N c : Nat) (vs : List PV) (ps : List PD) (unit step : Int) (w : World) (hC : CRd w A N vs ps) (hok : ∀ p ∈ ps, p.ok) (hN : N * 96 ≤ 140737488351232) (hu : I64 unit) (hs : I64 step) (o : VO) (hO : Out ps o) :
    Calls Tryd.prog 12 #[.agg #[.slice A N c], .int .i64 unit, .int .i64 step] w fun e w' => e = .returned (.tuple #[.int .i64 (weighF o unit step).1, .int .i64 (weighF o unit step).2]) ∧ Below w.heap.size w w' := by
  have HC := Lib.hid hC
  have HOK := Lib.hid hok
  have HOUT := Lib.hid hO
  clear hC hok hO
  go_enter Tryd.func12, Tryd.ntmps12
  obtain ⟨s1, s2⟩ := hs
  obtain ⟨u1, u2⟩ := hu
  go_upto_region 1 with fail
  have M0 := Lib.hid ((Mem.start w).alloc 24 #[.slice A N c])
  generalize World.alloc _ _ = w1 at M0 ⊢
  generalize w.heap.size = gb at M0 ⊢
  have BF := Lib.hid M0.out.bel
  have x0 : w1.cell? ⟨gb, 0, none⟩ = some (.slice A N c) := M0.out.cellK 0 rfl 0
  by_cases h1 : step < 1
  · have HW : Hid (weighF o unit step = (0, 4)) := Lib.hid (if_pos (.inl h1))
    go_wp2
    go_ret2
    exact ⟨by rw [HW.out]; rfl, BF.out⟩
  by_cases h2 : 1000 < step
  · have HW : Hid (weighF o unit step = (0, 4)) := Lib.hid (if_pos (.inr h2))
    go_wp2
    go_ret2
    exact ⟨by rw [HW.out]; rfl, BF.out⟩
  have HS : Hid (¬ (step < 1 ∨ 1000 < step)) := Lib.hid (by omega)
  go_wp2_with fail
  refine (VerifyR_any A N c vs ps w1 (HC.out.below M0.out.bel) HOK.out hN).mono ?_
  rintro e w2 ⟨o2, hO, B, d, rfl, hm2⟩
  have ee := out_uniq HOUT.out hO
  subst ee
  dsimp only
  have hbs := out_bs hO
  have HBS := Lib.hid hbs
  have hol := out_len hO
  obtain ⟨on, hon⟩ : ∃ on, o.bs.length = on := ⟨_, rfl⟩
  rw [hon] at hm2 hol ⊢
  have HON := Lib.hid hon
  have M1 := Lib.hid (hm2.alloc 28 #[.int .i64 o.code, .int .i64 o.unit, .int .i64 0])
  have B12 := Lib.hid (M0.out.bel)
  clear hO hm2 hon hbs x0 BF
  go_upto_region 4 with fail
  generalize World.alloc _ _ = w3 at M1 ⊢
  generalize w2.heap.size = g2 at M1 ⊢
  have z0 : w3.cell? ⟨g2, 0, none⟩ = some (.int .i64 o.code) := M1.out.cellK 0 rfl 0
  have BF : Hid (Below w.heap.size w w3) := Lib.hid (M0.out.bel.trans (M1.out.bel.mono M0.out.bel.size))
  by_cases hc : o.code = 0
  · have zc : (o.code != 0) = false := by simp [hc]
    have HCC := Lib.hid hc
    clear hc
    by_cases hu0 : unit < 0
    · have HW : Hid (weighF o unit step = (0, 6)) := Lib.hid (by unfold weighF; rw [if_neg HS.out, if_neg (by simp [HCC.out]), if_pos (.inl hu0)])
      go_wp2
      go_ret2
      exact ⟨by rw [HW.out]; rfl, BF.out⟩
    by_cases hu1 : (on : Int) ≤ unit
    · have HW : Hid (weighF o unit step = (0, 6)) := Lib.hid (by unfold weighF; rw [if_neg HS.out, if_neg (by simp [HCC.out]), if_pos (.inr (by rw [HON.out]; exact hu1))])
      go_wp2
      go_ret2
      exact ⟨by rw [HW.out]; rfl, BF.out⟩
    obtain ⟨un, rfl⟩ : ∃ un : Nat, unit = (un : Int) := ⟨unit.toNat, by omega⟩
    have hun : un < on := by omega
    have huni : (un : Int) < (on : Int) := by omega
    obtain ⟨b, o5, rfl, hcell⟩ := nat_at (M1.out.rdO 0 rfl) hun
    have hbd : o.bs.getD un 0 ≤ 1000000000 := by
      have h := HBS.out (o.bs.getD un 0) (by rw [List.getD_eq_getElem?_getD, List.getElem?_eq_getElem (by rw [HON.out]; exact hun)]; exact List.getElem_mem _)
      unfold lidN at h
      omega
    have HW : Hid (weighF o un step = (((o.bs.getD un 0 : Nat) * step + 999) / 1000, 0)) := Lib.hid (by unfold weighF; rw [if_neg HS.out, if_neg (by simp [HCC.out]), if_neg (by rw [HON.out]; omega)]; rfl)
    obtain ⟨bd, hbde⟩ : ∃ bd, o.bs.getD un 0 = bd := ⟨_, rfl⟩
    rw [hbde] at hcell hbd HW
    have hp0 : (0 : Int) ≤ (bd : Int) * step := Int.mul_nonneg (by omega) (by omega)
    have hp1 : (bd : Int) * step ≤ 1000000000000 := by
      have h3 : (bd : Int) * step ≤ 1000000000 * 1000 := Int.mul_le_mul (by omega) (by omega) (by omega) (by omega)
      omega
    obtain ⟨pr, hpr⟩ : ∃ pr, (bd : Int) * step = pr := ⟨_, rfl⟩
    rw [hpr] at hp0 hp1 HW
    have HD : Hid ((pr + 999).tdiv 1000 = (pr + 999) / 1000) := Lib.hid (Int.tdiv_eq_ediv_of_nonneg (by omega))
    have HE : Hid (pr.tdiv 1000 = pr / 1000) := Lib.hid (Int.tdiv_eq_ediv_of_nonneg (by omega))
    have HT : Hid (pr.tmod 1000 = pr % 1000) := Lib.hid (Int.tmod_eq_emod_of_nonneg (by omega))
    clear hbde M1
    by_cases hr : 0 < pr % 1000
    · have HQ : Hid (pr / 1000 + 1 = (pr + 999) / 1000) := Lib.hid (by omega)
      go_wp2
      go_ret2
      refine ⟨?_, BF.out⟩
      rw [HW.out]
      show Ending.returned (.tuple #[.int .i64 (pr / 1000 + 1), .int .i64 0]) = _
      rw [HQ.out]
    · have HQ : Hid (pr / 1000 = (pr + 999) / 1000) := Lib.hid (by omega)
      go_wp2
      go_ret2
      refine ⟨?_, BF.out⟩
      rw [HW.out]
      show Ending.returned (.tuple #[.int .i64 (pr / 1000), .int .i64 0]) = _
      rw [HQ.out]
  · have zc : (o.code != 0) = true := by simp [hc]
    have HW : Hid (weighF o unit step = (0, 12)) := Lib.hid (by unfold weighF; rw [if_neg HS.out, if_pos hc])
    clear hc
    go_wp2
    go_ret2
    exact ⟨by rw [HW.out]; rfl, BF.out⟩
end Go.Proofs.YtiogcbckhaknmaaDoor.Vf
