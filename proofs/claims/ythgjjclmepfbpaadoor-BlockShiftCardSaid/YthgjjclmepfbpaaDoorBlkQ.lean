/-
  Every block: what Step does, and that the reference's BlockStep does the same. Conditions: both lists read; the ints are ints.
-/
import Derived.Test.YthgjjclmepfbpaaDoorBlkP
import Derived.Test.YthgjjclmepfbpaaDoorBlkR5
import Derived.Test.YthgjjclmepfbpaaDoorBlkR6
import Derived.Test.YthgjjclmepfbpaaDoorBlkR7
import Derived.Test.YthgjjclmepfbpaaDoorBlkR8
namespace Go.Proofs.YthgjjclmepfbpaaDoor.Blk
open Go.RowKit Go.Proofs.YthgjjclmepfbpaaDoor.W Go.Proofs.YthgjjclmepfbpaaDoor.Ints Go.Proofs.YthgjjclmepfbpaaDoor.Cell Go.Proofs.YthgjjclmepfbpaaDoor.Num


theorem ref_does_ton : RefC b_ton tonB 4 2 := by
  intro A n c l A' n' c' l' now w hr hr'
  obtain ⟨x0, x1, x2, x3, hs⟩ := fit_four l ⟨⟨#[114, 117, 110]⟩, 1⟩ ⟨⟨#[115, 105, 110, 99, 101]⟩, 5⟩ ⟨⟨#[100, 111, 110, 101]⟩, 1⟩ ⟨⟨#[97, 116]⟩, 5⟩
  obtain ⟨y0, y1, hi⟩ := fit_two l' ⟨⟨#[105, 110]⟩, 1⟩ ⟨⟨#[112, 116]⟩, 5⟩
  have h := bs_ton A n c l A' n' c' l' now w hr hr' _ _ _ _ _ _ (wrapF 5 now) (by rw [ton_st]; exact hs) (by rw [ton_ins]; exact hi) rfl (time_fit now) (bool_fit x0) (time_fit x1) (bool_fit x2) (time_fit x3) (bool_fit y0) (time_fit y1)
  have e : stepF b_ton tonB l l' now = tonB [wrapF 1 x0, wrapF 5 x1, wrapF 1 x2, wrapF 5 x3] [wrapF 1 y0, wrapF 5 y1] (wrapF 5 now) := by
    unfold stepF
    rw [ton_st, ton_ins, hs, hi]
  rw [e]
  refine h.mono ?_
  rintro e w' ⟨g2, g3, rfl, Os, M⟩
  exact ⟨g2, g3, rfl, Mem.two (M.upO 1 rfl)⟩
theorem ref_does_tof : RefC b_tof tofB 4 2 := by
  intro A n c l A' n' c' l' now w hr hr'
  obtain ⟨x0, x1, x2, x3, hs⟩ := fit_four l ⟨⟨#[114, 117, 110]⟩, 1⟩ ⟨⟨#[115, 105, 110, 99, 101]⟩, 5⟩ ⟨⟨#[111, 110]⟩, 1⟩ ⟨⟨#[97, 116]⟩, 5⟩
  obtain ⟨y0, y1, hi⟩ := fit_two l' ⟨⟨#[105, 110]⟩, 1⟩ ⟨⟨#[112, 116]⟩, 5⟩
  have h := bs_tof A n c l A' n' c' l' now w hr hr' _ _ _ _ _ _ (wrapF 5 now) (by rw [tof_st]; exact hs) (by rw [tof_ins]; exact hi) rfl (time_fit now) (bool_fit x0) (time_fit x1) (bool_fit x2) (time_fit x3) (bool_fit y0) (time_fit y1)
  have e : stepF b_tof tofB l l' now = tofB [wrapF 1 x0, wrapF 5 x1, wrapF 1 x2, wrapF 5 x3] [wrapF 1 y0, wrapF 5 y1] (wrapF 5 now) := by
    unfold stepF
    rw [tof_st, tof_ins, hs, hi]
  rw [e]
  refine h.mono ?_
  rintro e w' ⟨g2, g3, rfl, Os, M⟩
  exact ⟨g2, g3, rfl, Mem.two (M.upO 1 rfl)⟩
theorem ref_does_tp : RefC b_tp tpB 4 2 := by
  intro A n c l A' n' c' l' now w hr hr'
  obtain ⟨x0, x1, x2, x3, hs⟩ := fit_four l ⟨⟨#[114, 117, 110]⟩, 1⟩ ⟨⟨#[115, 105, 110, 99, 101]⟩, 5⟩ ⟨⟨#[112, 114, 101, 118]⟩, 1⟩ ⟨⟨#[97, 116]⟩, 5⟩
  obtain ⟨y0, y1, hi⟩ := fit_two l' ⟨⟨#[105, 110]⟩, 1⟩ ⟨⟨#[112, 116]⟩, 5⟩
  have h := bs_tp A n c l A' n' c' l' now w hr hr' _ _ _ _ _ _ (wrapF 5 now) (by rw [tp_st]; exact hs) (by rw [tp_ins]; exact hi) rfl (time_fit now) (bool_fit x0) (time_fit x1) (bool_fit x2) (time_fit x3) (bool_fit y0) (time_fit y1)
  have e : stepF b_tp tpB l l' now = tpB [wrapF 1 x0, wrapF 5 x1, wrapF 1 x2, wrapF 5 x3] [wrapF 1 y0, wrapF 5 y1] (wrapF 5 now) := by
    unfold stepF
    rw [tp_st, tp_ins, hs, hi]
  rw [e]
  refine h.mono ?_
  rintro e w' ⟨g2, g3, rfl, Os, M⟩
  exact ⟨g2, g3, rfl, Mem.two (M.upO 1 rfl)⟩
theorem ref_does_ctu : RefC b_ctu ctuB 2 2 := by
  intro A n c l A' n' c' l' now w hr hr'
  obtain ⟨x0, x1, hs⟩ := fit_two l ⟨⟨#[112, 114, 101, 118]⟩, 1⟩ ⟨⟨#[99, 111, 117, 110, 116]⟩, 2⟩
  obtain ⟨y0, y1, y2, hi⟩ := fit_three l' ⟨⟨#[99, 117]⟩, 1⟩ ⟨⟨#[114]⟩, 1⟩ ⟨⟨#[112, 118]⟩, 2⟩
  have h := bs_ctu A n c l A' n' c' l' now w hr hr' _ _ _ _ _ (wrapF 5 now) (by rw [ctu_st]; exact hs) (by rw [ctu_ins]; exact hi) rfl (time_fit now) (bool_fit x0) (int_fit x1) (bool_fit y0) (bool_fit y1) (int_fit y2)
  simp only [yes_if] at h
  have e : stepF b_ctu ctuB l l' now = ctuB [wrapF 1 x0, wrapF 2 x1] [wrapF 1 y0, wrapF 1 y1, wrapF 2 y2] (wrapF 5 now) := by
    unfold stepF
    rw [ctu_st, ctu_ins, hs, hi]
  rw [e]
  refine h.mono ?_
  rintro e w' ⟨g2, g3, rfl, Os, M⟩
  exact ⟨g2, g3, rfl, Mem.two (M.upO 1 rfl)⟩
theorem ref_does_ctd : RefC b_ctd ctdB 2 2 := by
  intro A n c l A' n' c' l' now w hr hr'
  obtain ⟨x0, x1, hs⟩ := fit_two l ⟨⟨#[112, 114, 101, 118]⟩, 1⟩ ⟨⟨#[99, 111, 117, 110, 116]⟩, 2⟩
  obtain ⟨y0, y1, y2, hi⟩ := fit_three l' ⟨⟨#[99, 100]⟩, 1⟩ ⟨⟨#[108, 100]⟩, 1⟩ ⟨⟨#[112, 118]⟩, 2⟩
  have h := bs_ctd A n c l A' n' c' l' now w hr hr' _ _ _ _ _ (wrapF 5 now) (by rw [ctd_st]; exact hs) (by rw [ctd_ins]; exact hi) rfl (time_fit now) (bool_fit x0) (int_fit x1) (bool_fit y0) (bool_fit y1) (int_fit y2)
  simp only [yes_if] at h
  have e : stepF b_ctd ctdB l l' now = ctdB [wrapF 1 x0, wrapF 2 x1] [wrapF 1 y0, wrapF 1 y1, wrapF 2 y2] (wrapF 5 now) := by
    unfold stepF
    rw [ctd_st, ctd_ins, hs, hi]
  rw [e]
  refine h.mono ?_
  rintro e w' ⟨g2, g3, rfl, Os, M⟩
  exact ⟨g2, g3, rfl, Mem.two (M.upO 1 rfl)⟩
theorem ref_does_ctud : RefC b_ctud ctudB 3 3 := by
  intro A n c l A' n' c' l' now w hr hr'
  obtain ⟨x0, x1, x2, hs⟩ := fit_three l ⟨⟨#[117, 112]⟩, 1⟩ ⟨⟨#[100, 111, 119, 110]⟩, 1⟩ ⟨⟨#[99, 111, 117, 110, 116]⟩, 2⟩
  obtain ⟨y0, y1, y2, y3, y4, hi⟩ := fit_five l' ⟨⟨#[99, 117]⟩, 1⟩ ⟨⟨#[99, 100]⟩, 1⟩ ⟨⟨#[114]⟩, 1⟩ ⟨⟨#[108, 100]⟩, 1⟩ ⟨⟨#[112, 118]⟩, 2⟩
  have h := bs_ctud A n c l A' n' c' l' now w hr hr' _ _ _ _ _ _ _ _ (wrapF 5 now) (by rw [ctud_st]; exact hs) (by rw [ctud_ins]; exact hi) rfl (time_fit now) (bool_fit x0) (bool_fit x1) (int_fit x2) (bool_fit y0) (bool_fit y1) (bool_fit y2) (bool_fit y3) (int_fit y4)
  simp only [yes_if] at h
  have e : stepF b_ctud ctudB l l' now = ctudB [wrapF 1 x0, wrapF 1 x1, wrapF 2 x2] [wrapF 1 y0, wrapF 1 y1, wrapF 1 y2, wrapF 1 y3, wrapF 2 y4] (wrapF 5 now) := by
    unfold stepF
    rw [ctud_st, ctud_ins, hs, hi]
  rw [e]
  refine h.mono ?_
  rintro e w' ⟨g2, g3, rfl, Os, M⟩
  exact ⟨g2, g3, rfl, Mem.two (M.upO 1 rfl)⟩
theorem ref_does_rtrig : RefC b_rtrig rtrigB 1 1 := by
  intro A n c l A' n' c' l' now w hr hr'
  obtain ⟨x0, hs⟩ := fit_one l ⟨⟨#[112, 114, 101, 118]⟩, 1⟩
  obtain ⟨y0, hi⟩ := fit_one l' ⟨⟨#[99, 108, 107]⟩, 1⟩
  have h := bs_rtrig A n c l A' n' c' l' now w hr hr' _ _ (wrapF 5 now) (by rw [rtrig_st]; exact hs) (by rw [rtrig_ins]; exact hi) rfl (time_fit now) (bool_fit x0) (bool_fit y0)
  have e : stepF b_rtrig rtrigB l l' now = rtrigB [wrapF 1 x0] [wrapF 1 y0] (wrapF 5 now) := by
    unfold stepF
    rw [rtrig_st, rtrig_ins, hs, hi]
  rw [e]
  refine h.mono ?_
  rintro e w' ⟨g2, g3, rfl, Os, M⟩
  exact ⟨g2, g3, rfl, Mem.two (M.upO 1 rfl)⟩
theorem ref_does_ftrig : RefC b_ftrig ftrigB 1 1 := by
  intro A n c l A' n' c' l' now w hr hr'
  obtain ⟨x0, hs⟩ := fit_one l ⟨⟨#[112, 114, 101, 118]⟩, 1⟩
  obtain ⟨y0, hi⟩ := fit_one l' ⟨⟨#[99, 108, 107]⟩, 1⟩
  have h := bs_ftrig A n c l A' n' c' l' now w hr hr' _ _ (wrapF 5 now) (by rw [ftrig_st]; exact hs) (by rw [ftrig_ins]; exact hi) rfl (time_fit now) (bool_fit x0) (bool_fit y0)
  have e : stepF b_ftrig ftrigB l l' now = ftrigB [wrapF 1 x0] [wrapF 1 y0] (wrapF 5 now) := by
    unfold stepF
    rw [ftrig_st, ftrig_ins, hs, hi]
  rw [e]
  refine h.mono ?_
  rintro e w' ⟨g2, g3, rfl, Os, M⟩
  exact ⟨g2, g3, rfl, Mem.two (M.upO 1 rfl)⟩
theorem ref_does_sr : RefC b_sr srB 1 1 := by
  intro A n c l A' n' c' l' now w hr hr'
  obtain ⟨x0, hs⟩ := fit_one l ⟨⟨#[111, 110]⟩, 1⟩
  obtain ⟨y0, y1, hi⟩ := fit_two l' ⟨⟨#[115, 49]⟩, 1⟩ ⟨⟨#[114]⟩, 1⟩
  have h := bs_sr A n c l A' n' c' l' now w hr hr' _ _ _ (wrapF 5 now) (by rw [sr_st]; exact hs) (by rw [sr_ins]; exact hi) rfl (time_fit now) (bool_fit x0) (bool_fit y0) (bool_fit y1)
  have e : stepF b_sr srB l l' now = srB [wrapF 1 x0] [wrapF 1 y0, wrapF 1 y1] (wrapF 5 now) := by
    unfold stepF
    rw [sr_st, sr_ins, hs, hi]
  rw [e]
  refine h.mono ?_
  rintro e w' ⟨g2, g3, rfl, Os, M⟩
  exact ⟨g2, g3, rfl, Mem.two (M.upO 1 rfl)⟩
theorem ref_does_rs : RefC b_rs rsB 1 1 := by
  intro A n c l A' n' c' l' now w hr hr'
  obtain ⟨x0, hs⟩ := fit_one l ⟨⟨#[111, 110]⟩, 1⟩
  obtain ⟨y0, y1, hi⟩ := fit_two l' ⟨⟨#[115]⟩, 1⟩ ⟨⟨#[114, 49]⟩, 1⟩
  have h := bs_rs A n c l A' n' c' l' now w hr hr' _ _ _ (wrapF 5 now) (by rw [rs_st]; exact hs) (by rw [rs_ins]; exact hi) rfl (time_fit now) (bool_fit x0) (bool_fit y0) (bool_fit y1)
  have e : stepF b_rs rsB l l' now = rsB [wrapF 1 x0] [wrapF 1 y0, wrapF 1 y1] (wrapF 5 now) := by
    unfold stepF
    rw [rs_st, rs_ins, hs, hi]
  rw [e]
  refine h.mono ?_
  rintro e w' ⟨g2, g3, rfl, Os, M⟩
  exact ⟨g2, g3, rfl, Mem.two (M.upO 1 rfl)⟩
theorem ref_does_ramp : RefC b_ramp rampB 1 1 := by
  intro A n c l A' n' c' l' now w hr hr'
  obtain ⟨x0, hs⟩ := fit_one l ⟨⟨#[97, 116]⟩, 2⟩
  obtain ⟨y0, y1, hi⟩ := fit_two l' ⟨⟨#[120]⟩, 2⟩ ⟨⟨#[115, 116, 101, 112]⟩, 2⟩
  have h := bs_ramp A n c l A' n' c' l' now w hr hr' _ _ _ (wrapF 5 now) (by rw [ramp_st]; exact hs) (by rw [ramp_ins]; exact hi) rfl (time_fit now) (int_fit x0) (int_fit y0) (int_fit y1)
  have e : stepF b_ramp rampB l l' now = rampB [wrapF 2 x0] [wrapF 2 y0, wrapF 2 y1] (wrapF 5 now) := by
    unfold stepF
    rw [ramp_st, ramp_ins, hs, hi]
  rw [e]
  refine h.mono ?_
  rintro e w' ⟨g2, g3, rfl, Os, M⟩
  exact ⟨g2, g3, rfl, Mem.two (M.upO 1 rfl)⟩
theorem ref_does_hyst : RefC b_hyst hystB 1 1 := by
  intro A n c l A' n' c' l' now w hr hr'
  obtain ⟨x0, hs⟩ := fit_one l ⟨⟨#[111, 110]⟩, 1⟩
  obtain ⟨y0, y1, y2, hi⟩ := fit_three l' ⟨⟨#[120]⟩, 2⟩ ⟨⟨#[104, 105]⟩, 2⟩ ⟨⟨#[108, 111]⟩, 2⟩
  have h := bs_hyst A n c l A' n' c' l' now w hr hr' _ _ _ _ (wrapF 5 now) (by rw [hyst_st]; exact hs) (by rw [hyst_ins]; exact hi) rfl (time_fit now) (bool_fit x0) (int_fit y0) (int_fit y1) (int_fit y2)
  have e : stepF b_hyst hystB l l' now = hystB [wrapF 1 x0] [wrapF 2 y0, wrapF 2 y1, wrapF 2 y2] (wrapF 5 now) := by
    unfold stepF
    rw [hyst_st, hyst_ins, hs, hi]
  rw [e]
  refine h.mono ?_
  rintro e w' ⟨g2, g3, rfl, Os, M⟩
  exact ⟨g2, g3, rfl, Mem.two (M.upO 1 rfl)⟩

/-- a block: what it does, on both sides -/
def Does (b : BT) : Prop := ∃ (B : Body) (N3 NO : Nat), StepC b B N3 NO ∧ RefC b B N3 NO ∧ Well b B N3 NO ∧ Shifts b B ∧ (pinsL b.st).length = N3 ∧ (pinsL b.outs).length = NO ∧ N3 ≤ 4 ∧ NO ≤ 3
theorem does_all {b : BT} (h : b ∈ bts) : Does b := by
  simp only [bts, List.mem_cons, List.not_mem_nil, or_false] at h
  rcases h with rfl | rfl | rfl | rfl | rfl | rfl | rfl | rfl | rfl | rfl | rfl | rfl
  · exact ⟨tonB, 4, 2, does_ton, ref_does_ton, ton_well, ton_shifts, by kernel_rfl, by kernel_rfl, by decide, by decide⟩
  · exact ⟨tofB, 4, 2, does_tof, ref_does_tof, tof_well, tof_shifts, by kernel_rfl, by kernel_rfl, by decide, by decide⟩
  · exact ⟨tpB, 4, 2, does_tp, ref_does_tp, tp_well, tp_shifts, by kernel_rfl, by kernel_rfl, by decide, by decide⟩
  · exact ⟨ctuB, 2, 2, does_ctu, ref_does_ctu, ctu_well, ctu_shifts, by kernel_rfl, by kernel_rfl, by decide, by decide⟩
  · exact ⟨ctdB, 2, 2, does_ctd, ref_does_ctd, ctd_well, ctd_shifts, by kernel_rfl, by kernel_rfl, by decide, by decide⟩
  · exact ⟨ctudB, 3, 3, does_ctud, ref_does_ctud, ctud_well, ctud_shifts, by kernel_rfl, by kernel_rfl, by decide, by decide⟩
  · exact ⟨rtrigB, 1, 1, does_rtrig, ref_does_rtrig, rtrig_well, rtrig_shifts, by kernel_rfl, by kernel_rfl, by decide, by decide⟩
  · exact ⟨ftrigB, 1, 1, does_ftrig, ref_does_ftrig, ftrig_well, ftrig_shifts, by kernel_rfl, by kernel_rfl, by decide, by decide⟩
  · exact ⟨srB, 1, 1, does_sr, ref_does_sr, sr_well, sr_shifts, by kernel_rfl, by kernel_rfl, by decide, by decide⟩
  · exact ⟨rsB, 1, 1, does_rs, ref_does_rs, rs_well, rs_shifts, by kernel_rfl, by kernel_rfl, by decide, by decide⟩
  · exact ⟨rampB, 1, 1, does_ramp, ref_does_ramp, ramp_well, ramp_shifts, by kernel_rfl, by kernel_rfl, by decide, by decide⟩
  · exact ⟨hystB, 1, 1, does_hyst, ref_does_hyst, hyst_well, hyst_shifts, by kernel_rfl, by kernel_rfl, by decide, by decide⟩

end Go.Proofs.YthgjjclmepfbpaaDoor.Blk
