/-
  The reference's Loops. Conditions: the text reads, within the reach.
-/
import Derived.Test.YtiogcbckhaknmaaDoorVp2
import Derived.Test.YtiogcbckhaknmaaDoorMem2
import Derived.Test.YtiogcbckhaknmaaDoorApl
import Derived.Deep.RegionHeld3
import Derived.Deep.DeepCutAuto
import Derived.BigRegion
namespace Go.Proofs.YtiogcbckhaknmaaDoor.Vf
open Go.RowKit Go.Proofs.YtiogcbckhaknmaaDoor.W Go.Proofs.YtiogcbckhaknmaaDoor.Ints Go.Proofs.YtiogcbckhaknmaaDoor.Cod

theorem loop_info : (Tryd.prog.info? 53).map (fun i => (i.zero, i.size, i.bytes)) = some (some (.agg #[.int .i64 0, .int .i64 0, .int .i64 0, .int .i64 0]), 4, 32) := by kernel_rfl
set_option maxRecDepth 100000 in
set_option maxHeartbeats 12800000 in
theorem LoopsR_any (A : Option Addr) (n c : Nat) (T : List IN) (w : World) (hT : Rd w 4 A n (textV T)) (hn : n ≤ 100000) :
    Calls Tryd.prog 15 #[.slice A n c] w fun e w' => (LoopsOk T ∧ ∃ L c', e = .returned (.tuple #[.slice L (loopsTo T n).length c', .bool true]) ∧ Mem w w' [] [⟨53, 4, L, (loopsTo T n).length, c', loopsV (loopsTo T n)⟩]) ∨ (¬ LoopsOk T ∧ e = .returned (.tuple #[.slice none 0 0, .bool false]) ∧ Below w.heap.size w w') := by
  have htl : T.length = n := Rd.rec_len IN.size (by omega) hT
  obtain ⟨l0, hl0, hz0, hz1, hz2⟩ := info_parts loop_info
  have HT := Lib.hid hT
  have HTL := Lib.hid htl
  clear hT htl
  go_enter Tryd.func15, Tryd.ntmps15
  go_wp2
  go_loopw [5, 6] (fun v5 v6 wr => ∃ k : Nat, k ≤ n ∧ v6 = .int .i64 k ∧ v5 = .int .i64 ((roundsF (T.take k)).length : Nat) ∧ wr = w) (fun _ v6 _ => n - (intOf v6).toNat)
  case atStart => exact ⟨0, Nat.zero_le _, rfl, rfl, rfl⟩
  case round =>
    obtain ⟨k, hk, rfl, rfl, rfl⟩ := hrel
    by_cases hlt : k < n
    · obtain ⟨b, o, x, rfl, hx, hbl, c0, c1, c2, c3⟩ := instr_at HT.out hlt
      have hrs := rounds_snoc hx
      have hle := rounds_le T k
      generalize hq : (roundsF (T.take k)).length = q at *
      have HQ := Lib.hid hq
      have HRS := Lib.hid hrs
      clear hq hrs
      have hk0 : (0 : Int) ≤ (k : Int) := by omega
      have hkn : (k : Int) < (n : Int) := by omega
      by_cases h14 : x.op = 14
      · have HE : Hid ((roundsF (T.take (k + 1))).length = q + 1) := Lib.hid (by rw [HRS.out, List.length_append, HQ.out, if_pos h14]; rfl)
        rw [h14] at c0
        clear h14
        go_wp2
        go_roundw
        case rel => exact ⟨k + 1, by omega, by go_num, by rw [HE.out]; go_num, trivial⟩
        case measure => simp [intOf]; omega
      · have HE : Hid ((roundsF (T.take (k + 1))).length = q) := Lib.hid (by rw [HRS.out, List.length_append, HQ.out, if_neg h14]; rfl)
        have hz : (x.op == 14) = false := by simp [h14]
        clear h14
        go_wp2
        go_roundw
        case rel => exact ⟨k + 1, by omega, by go_num, by rw [HE.out], trivial⟩
        case measure => simp [intOf]; omega
    · obtain rfl : k = n := by omega
      have hk1 : ¬ (k : Int) < (k : Int) := by omega
      rw [show T.take k = T from List.take_of_length_le (by rw [HTL.out]; exact Nat.le_refl _)]
      have hrl : (roundsF T).length ≤ k := by have := rounds_le T T.length; rwa [List.take_length, HTL.out] at this
      generalize hq : (roundsF T).length = q at *
      have HQ := Lib.hid hq
      clear hq hk hlt
      have M0 : Hid (Mem wr wr [] [⟨53, 4, none, 0, 0, loopsV (loopsTo T 0)⟩]) := Lib.hid ((Mem.start wr).nilO 53 4)
      obtain ⟨w, hwr⟩ : ∃ w : World, w = wr := ⟨_, rfl⟩
      subst hwr
      go_wp2
      go_loopw [4, 7] (fun v4 v7 wr => ∃ (i c4 : Nat) (A4 : Option Addr), i ≤ k ∧ v7 = .int .i64 i ∧ v4 = .slice A4 (loopsTo T i).length c4 ∧ Hid (entersOk T i) ∧ Hid (Mem w wr [] [⟨53, 4, A4, (loopsTo T i).length, c4, loopsV (loopsTo T i)⟩])) (fun _ v7 _ => k - (intOf v7).toNat)
      case atStart => exact ⟨0, 0, none, Nat.zero_le _, rfl, rfl, Lib.hid (enters_zero T), M0⟩
      case round =>
        clear M0
        obtain ⟨i, c4, A4, hi, rfl, rfl, HE, M0⟩ := hrel
        by_cases hlt : i < k
        · obtain ⟨b, o, x, rfl, hx, hbl, y0, y1, y2, y3⟩ := instr_at (HT.out.below M0.out.bel) hlt
          have HX := Lib.hid hx
          have HBL := Lib.hid hbl
          have hi0 : (0 : Int) ≤ (i : Int) := by omega
          have hik : (i : Int) < (k : Int) := by omega
          clear hx hbl
          by_cases h13 : x.op = 13
          · have HS := Lib.hid (loops_snoc HX.out h13)
            have H13 := Lib.hid h13
            rw [h13] at y0
            clear h13
            have hm := loops_len (T := T) i
            generalize hmm : (loopsTo T i).length = m at *
            have HMM := Lib.hid hmm
            clear hmm
            obtain ⟨w0, hw0⟩ : ∃ w0 : World, w0 = wr := ⟨_, rfl⟩
            subst hw0
            go_wp2
            go_loopw [8, 9] (fun v8 v9 wr => ∃ (j : Nat) (G : Option Nat), j ≤ k ∧ v9 = .int .i64 j ∧ v8 = .int .i64 (foundI G) ∧ Hid (roundAt (T.take j) ((i : Int) + 1) = G) ∧ wr = w0) (fun _ v9 _ => k - (intOf v9).toNat)
            case atStart => exact ⟨0, none, Nat.zero_le _, rfl, rfl, Lib.hid (by simp [roundAt]), rfl⟩
            case round =>
              obtain ⟨j, G, hj, rfl, rfl, HG, rfl⟩ := hrel
              have hwi : IntKind.i64.wrap ((i : Int) + 1) = (i : Int) + 1 := by simp [IntKind.wrap, IntKind.bits, IntKind.signed]; omega
              cases G with
              | some f =>
                have hr := round_pre HG.out
                obtain ⟨y, hy, hyo, hyb, hfl⟩ := round_some hr
                rw [HTL.out] at hfl
                have HRF := Lib.hid (And.intro hr (And.intro hy (And.intro hyo hyb)))
                clear hr hy hyo hyb
                simp only [foundI]
                have hf0 : ¬ (f : Int) < 0 := by omega
                by_cases hfi : f < i + 1
                · have hfi2 : (f : Int) < (i : Int) + 1 := by omega
                  have hbad : Hid (¬ LoopsOk T) := Lib.hid (fun h => by
                    have h1 := h.enters i x (by rw [HTL.out]; omega) HX.out H13.out
                    unfold enterOk at h1
                    rw [HRF.out.1] at h1
                    simp at h1
                    omega)
                  go_upto_region 18 with fail
                  all_goals
                    refine wp_region_held_drew (S := fun w' => True) (by kernel_rfl) ?_ (fun hHeld => ?_)
                    · exact trivial
                    refine wpAnyH_take (i := 0) (v := ?_) rfl (by kernel_rfl) (by kernel_rfl) (by kernel_rfl) (fun _ _ _ h => h) (Or.inl ⟨by rfl, ?_⟩) (by assumption) ?_
                    rotate_left
                    · intro w' hSw
                      (try dsimp only at hSw)
                      go_simp
                      try with_reducible rfl
                    try simp only [Act.put, List.getElem_toArray, List.getElem_cons_zero, List.setIfInBounds_toArray, List.set_cons_zero, List.set_cons_succ]
                    refine wpAnyH_take (i := 1) (v := ?_) rfl (by kernel_rfl) (by kernel_rfl) (by kernel_rfl) (fun _ _ _ h => h) (Or.inl ⟨by rfl, ?_⟩) (by assumption) ?_
                    rotate_left
                    · intro w' hSw
                      (try dsimp only at hSw)
                      go_simp
                      try with_reducible rfl
                    try simp only [Act.put, List.getElem_toArray, List.getElem_cons_zero, List.getElem_cons_succ, List.setIfInBounds_toArray, List.set_cons_zero, List.set_cons_succ]
                    refine wpAnyH_take (i := 2) (v := ?_) rfl (by kernel_rfl) (by kernel_rfl) (by kernel_rfl) (fun _ _ _ h => h) (Or.inl ⟨by rfl, ?_⟩) (by assumption) ?_
                    rotate_left
                    · intro w' hSw
                      (try dsimp only at hSw)
                      go_simp
                      try with_reducible rfl
                    try simp only [Act.put, List.getElem_toArray, List.getElem_cons_zero, List.getElem_cons_succ, List.setIfInBounds_toArray, List.set_cons_zero, List.set_cons_succ]
                    refine wpAnyH_take (i := 3) (v := ?_) rfl (by kernel_rfl) (by kernel_rfl) (by kernel_rfl) (fun _ _ _ h => h) (Or.inl ⟨by rfl, ?_⟩) (by assumption) ?_
                    rotate_left
                    · intro w' hSw
                      (try dsimp only at hSw)
                      go_simp
                      try with_reducible rfl
                    try simp only [Act.put, List.getElem_toArray, List.getElem_cons_zero, List.getElem_cons_succ, List.setIfInBounds_toArray, List.set_cons_zero, List.set_cons_succ]
                    refine wpAnyH_take (i := 4) (v := ?_) rfl (by kernel_rfl) (by kernel_rfl) (by kernel_rfl) (fun _ _ _ h => h) (Or.inl ⟨by rfl, ?_⟩) (by assumption) ?_
                    rotate_left
                    · intro w' hSw
                      (try dsimp only at hSw)
                      go_simp
                      try with_reducible rfl
                    try simp only [Act.put, List.getElem_toArray, List.getElem_cons_zero, List.getElem_cons_succ, List.setIfInBounds_toArray, List.set_cons_zero, List.set_cons_succ]
                    refine wpAnyH_take (i := 5) (v := undef) rfl (by kernel_rfl) (by kernel_rfl) (by kernel_rfl) (fun _ _ _ h => h) (Or.inr ⟨by rfl, rfl⟩) (by assumption) ?_
                    try simp only [Act.put, List.getElem_toArray, List.getElem_cons_zero, List.getElem_cons_succ, List.setIfInBounds_toArray, List.set_cons_zero, List.set_cons_succ]
                    refine wpAnyH_take (i := 6) (v := undef) rfl (by kernel_rfl) (by kernel_rfl) (by kernel_rfl) (fun _ _ _ h => h) (Or.inr ⟨by rfl, rfl⟩) (by assumption) ?_
                    try simp only [Act.put, List.getElem_toArray, List.getElem_cons_zero, List.getElem_cons_succ, List.setIfInBounds_toArray, List.set_cons_zero, List.set_cons_succ]
                    refine wpAnyH_take (i := 7) (v := undef) rfl (by kernel_rfl) (by kernel_rfl) (by kernel_rfl) (fun _ _ _ h => h) (Or.inr ⟨by rfl, rfl⟩) (by assumption) ?_
                    try simp only [Act.put, List.getElem_toArray, List.getElem_cons_zero, List.getElem_cons_succ, List.setIfInBounds_toArray, List.set_cons_zero, List.set_cons_succ]
                    refine wpAnyH_take (i := 8) (v := undef) rfl (by kernel_rfl) (by kernel_rfl) (by kernel_rfl) (fun _ _ _ h => h) (Or.inr ⟨by rfl, rfl⟩) (by assumption) ?_
                    try simp only [Act.put, List.getElem_toArray, List.getElem_cons_zero, List.getElem_cons_succ, List.setIfInBounds_toArray, List.set_cons_zero, List.set_cons_succ]
                    refine wpAnyH_take (i := 9) (v := undef) rfl (by kernel_rfl) (by kernel_rfl) (by kernel_rfl) (fun _ _ _ h => h) (Or.inr ⟨by rfl, rfl⟩) (by assumption) ?_
                    try simp only [Act.put, List.getElem_toArray, List.getElem_cons_zero, List.getElem_cons_succ, List.setIfInBounds_toArray, List.set_cons_zero, List.set_cons_succ]
                    refine wpAnyH_take (i := 10) (v := undef) rfl (by kernel_rfl) (by kernel_rfl) (by kernel_rfl) (fun _ _ _ h => h) (Or.inr ⟨by rfl, rfl⟩) (by assumption) ?_
                    try simp only [Act.put, List.getElem_toArray, List.getElem_cons_zero, List.getElem_cons_succ, List.setIfInBounds_toArray, List.set_cons_zero, List.set_cons_succ]
                    refine wpAnyH_take (i := 11) (v := undef) rfl (by kernel_rfl) (by kernel_rfl) (by kernel_rfl) (fun _ _ _ h => h) (Or.inr ⟨by rfl, rfl⟩) (by assumption) ?_
                    try simp only [Act.put, List.getElem_toArray, List.getElem_cons_zero, List.getElem_cons_succ, List.setIfInBounds_toArray, List.set_cons_zero, List.set_cons_succ]
                    refine wpAnyH_take (i := 12) (v := undef) rfl (by kernel_rfl) (by kernel_rfl) (by kernel_rfl) (fun _ _ _ h => h) (Or.inr ⟨by rfl, rfl⟩) (by assumption) ?_
                    try simp only [Act.put, List.getElem_toArray, List.getElem_cons_zero, List.getElem_cons_succ, List.setIfInBounds_toArray, List.set_cons_zero, List.set_cons_succ]
                    refine wpAnyH_take (i := 13) (v := undef) rfl (by kernel_rfl) (by kernel_rfl) (by kernel_rfl) (fun _ _ _ h => h) (Or.inr ⟨by rfl, rfl⟩) (by assumption) ?_
                    try simp only [Act.put, List.getElem_toArray, List.getElem_cons_zero, List.getElem_cons_succ, List.setIfInBounds_toArray, List.set_cons_zero, List.set_cons_succ]
                    refine wpAnyH_take (i := 14) (v := undef) rfl (by kernel_rfl) (by kernel_rfl) (by kernel_rfl) (fun _ _ _ h => h) (Or.inr ⟨by rfl, rfl⟩) (by assumption) ?_
                    try simp only [Act.put, List.getElem_toArray, List.getElem_cons_zero, List.getElem_cons_succ, List.setIfInBounds_toArray, List.set_cons_zero, List.set_cons_succ]
                    refine wpAnyH_take (i := 15) (v := undef) rfl (by kernel_rfl) (by kernel_rfl) (by kernel_rfl) (fun _ _ _ h => h) (Or.inr ⟨by rfl, rfl⟩) (by assumption) ?_
                    try simp only [Act.put, List.getElem_toArray, List.getElem_cons_zero, List.getElem_cons_succ, List.setIfInBounds_toArray, List.set_cons_zero, List.set_cons_succ]
                    refine wpAnyH_take (i := 16) (v := ?_) rfl (by kernel_rfl) (by kernel_rfl) (by kernel_rfl) (fun _ _ _ h => h) (Or.inl ⟨by rfl, ?_⟩) (by assumption) ?_
                    rotate_left
                    · intro w' hSw
                      (try dsimp only at hSw)
                      go_simp
                      try with_reducible rfl
                    try simp only [Act.put, List.getElem_toArray, List.getElem_cons_zero, List.getElem_cons_succ, List.setIfInBounds_toArray, List.set_cons_zero, List.set_cons_succ]
                    refine wpAnyH_done (by kernel_rfl) ?_ _
                    go_wp2
                    go_ret2
                    exact .inr ⟨hbad.out, rfl, M0.out.drew.bel⟩
                · have hfi2 : ¬ (f : Int) < (i : Int) + 1 := by omega
                  obtain ⟨b', o', x', e', hx', hbl', z0, z1, z2, z3⟩ := instr_at (HT.out.below M0.out.bel) hfl
                  injection e' with e'
                  injection e' with e1 e2
                  subst e1 e2
                  obtain rfl := Option.some.inj (HRF.out.2.1.symm.trans hx')
                  have hfk : (f : Int) < (k : Int) := by omega
                  have hf00 : (0 : Int) ≤ (f : Int) := by omega
                  clear hx' hbl' z0 z2 z3
                  by_cases hxa : y.a = x.a
                  · have hok : Hid (enterOk T i x = true) := Lib.hid (by
                      unfold enterOk
                      rw [HRF.out.1]
                      simp only [HRF.out.2.1, hxa]
                      simp
                      omega)
                    have hxa2 : (y.a != x.a) = false := by simp [hxa]
                    have hlf : Hid (loopOf T i x = ⟨i + 1, f, x.a, x.b⟩) := Lib.hid (by unfold loopOf; rw [HRF.out.1]; rfl)
                    go_upto_region 18 with fail
                    all_goals
                      have sE : wr.drew.cell? ⟨b, o + f * 4 + 1, none⟩ = some (.int .i64 y.a) ∧ wr.drew.cell? ⟨b, o + i * 4 + 1, none⟩ = some (.int .i64 x.a) := ⟨z1, y1⟩
                      refine wp_region_held_drew (S := fun w' => w'.cell? ⟨b, o + f * 4 + 1, none⟩ = some (.int .i64 y.a) ∧ w'.cell? ⟨b, o + i * 4 + 1, none⟩ = some (.int .i64 x.a)) (by kernel_rfl) ?_ (fun hHeld => ?_)
                      · exact sE
                      refine wpAnyH_take (i := 0) (v := ?_) rfl (by kernel_rfl) (by kernel_rfl) (by kernel_rfl) (fun _ _ _ h => h) (Or.inl ⟨by rfl, ?_⟩) (by assumption) ?_
                      rotate_left
                      · intro w' hSw
                        (try dsimp only at hSw)
                        go_simp
                        try with_reducible rfl
                      try simp only [Act.put, List.getElem_toArray, List.getElem_cons_zero, List.setIfInBounds_toArray, List.set_cons_zero, List.set_cons_succ]
                      refine wpAnyH_take (i := 1) (v := ?_) rfl (by kernel_rfl) (by kernel_rfl) (by kernel_rfl) (fun _ _ _ h => h) (Or.inl ⟨by rfl, ?_⟩) (by assumption) ?_
                      rotate_left
                      · intro w' hSw
                        (try dsimp only at hSw)
                        go_simp
                        try with_reducible rfl
                      try simp only [Act.put, List.getElem_toArray, List.getElem_cons_zero, List.getElem_cons_succ, List.setIfInBounds_toArray, List.set_cons_zero, List.set_cons_succ]
                      refine wpAnyH_take (i := 2) (v := ?_) rfl (by kernel_rfl) (by kernel_rfl) (by kernel_rfl) (fun _ _ _ h => h) (Or.inl ⟨by rfl, ?_⟩) (by assumption) ?_
                      rotate_left
                      · intro w' hSw
                        (try dsimp only at hSw)
                        go_simp
                        try with_reducible rfl
                      try simp only [Act.put, List.getElem_toArray, List.getElem_cons_zero, List.getElem_cons_succ, List.setIfInBounds_toArray, List.set_cons_zero, List.set_cons_succ]
                      refine wpAnyH_take (i := 3) (v := ?_) rfl (by kernel_rfl) (by kernel_rfl) (by kernel_rfl) (fun _ _ _ h => h) (Or.inl ⟨by rfl, ?_⟩) (by assumption) ?_
                      rotate_left
                      · intro w' hSw
                        (try dsimp only at hSw)
                        go_simp
                        try with_reducible rfl
                      try simp only [Act.put, List.getElem_toArray, List.getElem_cons_zero, List.getElem_cons_succ, List.setIfInBounds_toArray, List.set_cons_zero, List.set_cons_succ]
                      refine wpAnyH_take (i := 4) (v := ?_) rfl (by kernel_rfl) (by kernel_rfl) (by kernel_rfl) (fun _ _ _ h => h) (Or.inl ⟨by rfl, ?_⟩) (by assumption) ?_
                      rotate_left
                      · intro w' hSw
                        (try dsimp only at hSw)
                        go_simp
                        try with_reducible rfl
                      try simp only [Act.put, List.getElem_toArray, List.getElem_cons_zero, List.getElem_cons_succ, List.setIfInBounds_toArray, List.set_cons_zero, List.set_cons_succ]
                      refine wpAnyH_take (i := 5) (v := ?_) rfl (by kernel_rfl) (by kernel_rfl) (by kernel_rfl) (fun _ _ _ h => h) (Or.inl ⟨by rfl, ?_⟩) (by assumption) ?_
                      rotate_left
                      · intro w' hSw
                        (try dsimp only at hSw)
                        go_simp
                        try with_reducible rfl
                      try simp only [Act.put, List.getElem_toArray, List.getElem_cons_zero, List.getElem_cons_succ, List.setIfInBounds_toArray, List.set_cons_zero, List.set_cons_succ]
                      refine wpAnyH_take (i := 6) (v := ?_) rfl (by kernel_rfl) (by kernel_rfl) (by kernel_rfl) (fun _ _ _ h => h) (Or.inl ⟨by rfl, ?_⟩) (by assumption) ?_
                      rotate_left
                      · intro w' hSw
                        (try dsimp only at hSw)
                        go_simp
                        try with_reducible rfl
                      try simp only [Act.put, List.getElem_toArray, List.getElem_cons_zero, List.getElem_cons_succ, List.setIfInBounds_toArray, List.set_cons_zero, List.set_cons_succ]
                      refine wpAnyH_take (i := 7) (v := ?_) rfl (by kernel_rfl) (by kernel_rfl) (by kernel_rfl) (fun _ _ _ h => h) (Or.inl ⟨by rfl, ?_⟩) (by assumption) ?_
                      rotate_left
                      · intro w' hSw
                        (try dsimp only at hSw)
                        go_simp
                        try with_reducible rfl
                      try simp only [Act.put, List.getElem_toArray, List.getElem_cons_zero, List.getElem_cons_succ, List.setIfInBounds_toArray, List.set_cons_zero, List.set_cons_succ]
                      refine wpAnyH_take (i := 8) (v := ?_) rfl (by kernel_rfl) (by kernel_rfl) (by kernel_rfl) (fun _ _ _ h => h) (Or.inl ⟨by rfl, ?_⟩) (by assumption) ?_
                      rotate_left
                      · intro w' hSw
                        (try dsimp only at hSw)
                        go_simp
                        try with_reducible rfl
                      try simp only [Act.put, List.getElem_toArray, List.getElem_cons_zero, List.getElem_cons_succ, List.setIfInBounds_toArray, List.set_cons_zero, List.set_cons_succ]
                      refine wpAnyH_take (i := 9) (v := ?_) rfl (by kernel_rfl) (by kernel_rfl) (by kernel_rfl) (fun _ _ _ h => h) (Or.inl ⟨by rfl, ?_⟩) (by assumption) ?_
                      rotate_left
                      · intro w' hSw
                        (try dsimp only at hSw)
                        go_simp
                        try with_reducible rfl
                      try simp only [Act.put, List.getElem_toArray, List.getElem_cons_zero, List.getElem_cons_succ, List.setIfInBounds_toArray, List.set_cons_zero, List.set_cons_succ]
                      refine wpAnyH_take (i := 10) (v := ?_) rfl (by kernel_rfl) (by kernel_rfl) (by kernel_rfl) (fun _ _ _ h => h) (Or.inl ⟨by rfl, ?_⟩) (by assumption) ?_
                      rotate_left
                      · intro w' hSw
                        (try dsimp only at hSw)
                        go_simp
                        try with_reducible rfl
                      try simp only [Act.put, List.getElem_toArray, List.getElem_cons_zero, List.getElem_cons_succ, List.setIfInBounds_toArray, List.set_cons_zero, List.set_cons_succ]
                      refine wpAnyH_take (i := 11) (v := ?_) rfl (by kernel_rfl) (by kernel_rfl) (by kernel_rfl) (fun _ _ _ h => h) (Or.inl ⟨by rfl, ?_⟩) (by assumption) ?_
                      rotate_left
                      · intro w' hSw
                        (try dsimp only at hSw)
                        go_simp
                        try with_reducible rfl
                      try simp only [Act.put, List.getElem_toArray, List.getElem_cons_zero, List.getElem_cons_succ, List.setIfInBounds_toArray, List.set_cons_zero, List.set_cons_succ]
                      refine wpAnyH_take (i := 12) (v := ?_) rfl (by kernel_rfl) (by kernel_rfl) (by kernel_rfl) (fun _ _ _ h => h) (Or.inl ⟨by rfl, ?_⟩) (by assumption) ?_
                      rotate_left
                      · intro w' hSw
                        (try dsimp only at hSw)
                        go_simp
                        try with_reducible rfl
                      try simp only [Act.put, List.getElem_toArray, List.getElem_cons_zero, List.getElem_cons_succ, List.setIfInBounds_toArray, List.set_cons_zero, List.set_cons_succ]
                      refine wpAnyH_take (i := 13) (v := ?_) rfl (by kernel_rfl) (by kernel_rfl) (by kernel_rfl) (fun _ _ _ h => h) (Or.inl ⟨by rfl, ?_⟩) (by assumption) ?_
                      rotate_left
                      · intro w' hSw
                        (try dsimp only at hSw)
                        go_simp
                        try with_reducible rfl
                      try simp only [Act.put, List.getElem_toArray, List.getElem_cons_zero, List.getElem_cons_succ, List.setIfInBounds_toArray, List.set_cons_zero, List.set_cons_succ]
                      refine wpAnyH_take (i := 14) (v := ?_) rfl (by kernel_rfl) (by kernel_rfl) (by kernel_rfl) (fun _ _ _ h => h) (Or.inl ⟨by rfl, ?_⟩) (by assumption) ?_
                      rotate_left
                      · intro w' hSw
                        (try dsimp only at hSw)
                        go_simp
                        try with_reducible rfl
                      try simp only [Act.put, List.getElem_toArray, List.getElem_cons_zero, List.getElem_cons_succ, List.setIfInBounds_toArray, List.set_cons_zero, List.set_cons_succ]
                      refine wpAnyH_take (i := 15) (v := ?_) rfl (by kernel_rfl) (by kernel_rfl) (by kernel_rfl) (fun _ _ _ h => h) (Or.inl ⟨by rfl, ?_⟩) (by assumption) ?_
                      rotate_left
                      · intro w' hSw
                        (try dsimp only at hSw)
                        go_simp
                        try with_reducible rfl
                      try simp only [Act.put, List.getElem_toArray, List.getElem_cons_zero, List.getElem_cons_succ, List.setIfInBounds_toArray, List.set_cons_zero, List.set_cons_succ]
                      refine wpAnyH_take (i := 16) (v := ?_) rfl (by kernel_rfl) (by kernel_rfl) (by kernel_rfl) (fun _ _ _ h => h) (Or.inl ⟨by rfl, ?_⟩) (by assumption) ?_
                      rotate_left
                      · intro w' hSw
                        (try dsimp only at hSw)
                        go_simp
                        try with_reducible rfl
                      try simp only [Act.put, List.getElem_toArray, List.getElem_cons_zero, List.getElem_cons_succ, List.setIfInBounds_toArray, List.set_cons_zero, List.set_cons_succ]
                      refine wpAnyH_done (by kernel_rfl) ?_ _
                      have g1 : wr.drew.cell? ⟨b, o + i * 4 + 1, none⟩ = some (.int .i64 x.a) := y1
                      have g2 : wr.drew.cell? ⟨b, o + i * 4 + 2, none⟩ = some (.int .i64 x.b) := y2
                      have MQ := Lib.hid M0.out.drew
                      have HBQ : Hid (b < wr.drew.heap.size) := HBL
                      clear y0 y1 y2 y3 z1 sE
                      generalize wr.drew = wq at g1 g2 MQ HBQ ⊢
                      go_upto_region 20 with fail
                      have HCW : Hid (∀ w' : World, Below w.heap.size w w' → w'.cell? ⟨b, o + i * 4 + 1, none⟩ = some (.int .i64 x.a) ∧ w'.cell? ⟨b, o + i * 4 + 2, none⟩ = some (.int .i64 x.b)) := Lib.hid fun w' hb => by
                        obtain ⟨b9, o9, x9, e9, hx9, hbl9, u0, u1, u2, u3⟩ := instr_at (HT.out.below hb) hlt
                        injection e9 with e9
                        injection e9 with e1 e2
                        subst e1 e2
                        obtain rfl := Option.some.inj (HX.out.symm.trans hx9)
                        exact ⟨u1, u2⟩
                      have N0 := Lib.hid MQ.out.drew
                      have sE : wq.drew.cell? ⟨b, o + i * 4 + 1, none⟩ = some (.int .i64 x.a) ∧ wq.drew.cell? ⟨b, o + i * 4 + 2, none⟩ = some (.int .i64 x.b) := ⟨g1, g2⟩
                      clear g1 g2 MQ
                      have HBQ2 := HBQ
                      refine wp_region_held_drew (S := fun w' => w'.cell? ⟨b, o + i * 4 + 1, none⟩ = some (.int .i64 x.a) ∧ w'.cell? ⟨b, o + i * 4 + 2, none⟩ = some (.int .i64 x.b)) (by kernel_rfl) ?_ (fun hHeld => ?_)
                      · exact sE
                      refine wpAnyH_take (i := 0) (v := ?_) rfl (by kernel_rfl) (by kernel_rfl) (by kernel_rfl) (fun _ _ _ h => h) (Or.inl ⟨by rfl, ?_⟩) (by assumption) ?_
                      rotate_left
                      · intro w' hSw
                        (try dsimp only at hSw)
                        go_simp
                        try with_reducible rfl
                      try simp only [Act.put, List.getElem_toArray, List.getElem_cons_zero, List.setIfInBounds_toArray, List.set_cons_zero, List.set_cons_succ]
                      refine wpAnyH_take (i := 1) (v := ?_) rfl (by kernel_rfl) (by kernel_rfl) (by kernel_rfl) (fun _ _ _ h => h) (Or.inl ⟨by rfl, ?_⟩) (by assumption) ?_
                      rotate_left
                      · intro w' hSw
                        (try dsimp only at hSw)
                        go_simp
                        try with_reducible rfl
                      try simp only [Act.put, List.getElem_toArray, List.getElem_cons_zero, List.getElem_cons_succ, List.setIfInBounds_toArray, List.set_cons_zero, List.set_cons_succ]
                      refine wpAnyH_take (i := 2) (v := ?_) rfl (by kernel_rfl) (by kernel_rfl) (by kernel_rfl) (fun _ _ _ h => h) (Or.inl ⟨by rfl, ?_⟩) (by assumption) ?_
                      rotate_left
                      · intro w' hSw
                        (try dsimp only at hSw)
                        go_simp
                        try with_reducible rfl
                      try simp only [Act.put, List.getElem_toArray, List.getElem_cons_zero, List.getElem_cons_succ, List.setIfInBounds_toArray, List.set_cons_zero, List.set_cons_succ]
                      refine wpAnyH_take (i := 3) (v := ?_) rfl (by kernel_rfl) (by kernel_rfl) (by kernel_rfl) (fun _ _ _ h => h) (Or.inl ⟨by rfl, ?_⟩) (by assumption) ?_
                      rotate_left
                      · intro w' hSw
                        (try dsimp only at hSw)
                        go_simp
                        try with_reducible rfl
                      try simp only [Act.put, List.getElem_toArray, List.getElem_cons_zero, List.getElem_cons_succ, List.setIfInBounds_toArray, List.set_cons_zero, List.set_cons_succ]
                      refine wpAnyH_take (i := 4) (v := ?_) rfl (by kernel_rfl) (by kernel_rfl) (by kernel_rfl) (fun _ _ _ h => h) (Or.inl ⟨by rfl, ?_⟩) (by assumption) ?_
                      rotate_left
                      · intro w' hSw
                        (try dsimp only at hSw)
                        go_simp
                        try with_reducible rfl
                      try simp only [Act.put, List.getElem_toArray, List.getElem_cons_zero, List.getElem_cons_succ, List.setIfInBounds_toArray, List.set_cons_zero, List.set_cons_succ]
                      refine wpAnyH_take (i := 5) (v := ?_) rfl (by kernel_rfl) (by kernel_rfl) (by kernel_rfl) (fun _ _ _ h => h) (Or.inl ⟨by rfl, ?_⟩) (by assumption) ?_
                      rotate_left
                      · intro w' hSw
                        (try dsimp only at hSw)
                        go_simp
                        try with_reducible rfl
                      try simp only [Act.put, List.getElem_toArray, List.getElem_cons_zero, List.getElem_cons_succ, List.setIfInBounds_toArray, List.set_cons_zero, List.set_cons_succ]
                      refine wpAnyH_take (i := 6) (v := ?_) rfl (by kernel_rfl) (by kernel_rfl) (by kernel_rfl) (fun _ _ _ h => h) (Or.inl ⟨by rfl, ?_⟩) (by assumption) ?_
                      rotate_left
                      · intro w' hSw
                        (try dsimp only at hSw)
                        go_simp
                        try with_reducible rfl
                      try simp only [Act.put, List.getElem_toArray, List.getElem_cons_zero, List.getElem_cons_succ, List.setIfInBounds_toArray, List.set_cons_zero, List.set_cons_succ]
                      refine wpAnyH_take (i := 7) (v := ?_) rfl (by kernel_rfl) (by kernel_rfl) (by kernel_rfl) (fun _ _ _ h => h) (Or.inl ⟨by rfl, ?_⟩) (by assumption) ?_
                      rotate_left
                      · intro w' hSw
                        (try dsimp only at hSw)
                        go_simp
                        try with_reducible rfl
                      try simp only [Act.put, List.getElem_toArray, List.getElem_cons_zero, List.getElem_cons_succ, List.setIfInBounds_toArray, List.set_cons_zero, List.set_cons_succ]
                      refine wpAnyH_take (i := 8) (v := ?_) rfl (by kernel_rfl) (by kernel_rfl) (by kernel_rfl) (fun _ _ _ h => h) (Or.inl ⟨by rfl, ?_⟩) (by assumption) ?_
                      rotate_left
                      · intro w' hSw
                        (try dsimp only at hSw)
                        go_simp
                        try with_reducible rfl
                      try simp only [Act.put, List.getElem_toArray, List.getElem_cons_zero, List.getElem_cons_succ, List.setIfInBounds_toArray, List.set_cons_zero, List.set_cons_succ]
                      refine wpAnyH_take (i := 9) (v := ?_) rfl (by kernel_rfl) (by kernel_rfl) (by kernel_rfl) (fun _ _ _ h => h) (Or.inl ⟨by rfl, ?_⟩) (by assumption) ?_
                      rotate_left
                      · intro w' hSw
                        (try dsimp only at hSw)
                        go_simp
                        try with_reducible rfl
                      try simp only [Act.put, List.getElem_toArray, List.getElem_cons_zero, List.getElem_cons_succ, List.setIfInBounds_toArray, List.set_cons_zero, List.set_cons_succ]
                      refine wpAnyH_take (i := 10) (v := ?_) rfl (by kernel_rfl) (by kernel_rfl) (by kernel_rfl) (fun _ _ _ h => h) (Or.inl ⟨by rfl, ?_⟩) (by assumption) ?_
                      rotate_left
                      · intro w' hSw
                        (try dsimp only at hSw)
                        go_simp
                        try with_reducible rfl
                      try simp only [Act.put, List.getElem_toArray, List.getElem_cons_zero, List.getElem_cons_succ, List.setIfInBounds_toArray, List.set_cons_zero, List.set_cons_succ]
                      refine wpAnyH_take (i := 11) (v := ?_) rfl (by kernel_rfl) (by kernel_rfl) (by kernel_rfl) (fun _ _ _ h => h) (Or.inl ⟨by rfl, ?_⟩) (by assumption) ?_
                      rotate_left
                      · intro w' hSw
                        (try dsimp only at hSw)
                        go_simp
                        try with_reducible rfl
                      try simp only [Act.put, List.getElem_toArray, List.getElem_cons_zero, List.getElem_cons_succ, List.setIfInBounds_toArray, List.set_cons_zero, List.set_cons_succ]
                      refine wpAnyH_take (i := 12) (v := ?_) rfl (by kernel_rfl) (by kernel_rfl) (by kernel_rfl) (fun _ _ _ h => h) (Or.inl ⟨by rfl, ?_⟩) (by assumption) ?_
                      rotate_left
                      · intro w' hSw
                        (try dsimp only at hSw)
                        go_simp
                        try with_reducible rfl
                      try simp only [Act.put, List.getElem_toArray, List.getElem_cons_zero, List.getElem_cons_succ, List.setIfInBounds_toArray, List.set_cons_zero, List.set_cons_succ]
                      refine wpAnyH_take (i := 13) (v := ?_) rfl (by kernel_rfl) (by kernel_rfl) (by kernel_rfl) (fun _ _ _ h => h) (Or.inl ⟨by rfl, ?_⟩) (by assumption) ?_
                      rotate_left
                      · intro w' hSw
                        (try dsimp only at hSw)
                        go_simp
                        try with_reducible rfl
                      try simp only [Act.put, List.getElem_toArray, List.getElem_cons_zero, List.getElem_cons_succ, List.setIfInBounds_toArray, List.set_cons_zero, List.set_cons_succ]
                      refine wpAnyH_take (i := 14) (v := ?_) rfl (by kernel_rfl) (by kernel_rfl) (by kernel_rfl) (fun _ _ _ h => h) (Or.inl ⟨by rfl, ?_⟩) (by assumption) ?_
                      rotate_left
                      · intro w' hSw
                        (try dsimp only at hSw)
                        go_simp
                        try with_reducible rfl
                      try simp only [Act.put, List.getElem_toArray, List.getElem_cons_zero, List.getElem_cons_succ, List.setIfInBounds_toArray, List.set_cons_zero, List.set_cons_succ]
                      refine wpAnyH_ready (rs := [15]) (by kernel_rfl) (by simp) ?_
                      refine (AllReadyH.cons rfl (fun K hK => ?_) AllReadyH.nil)
                      have HKK := Lib.hid hK
                      clear hK
                      go_simp
                      have N1 := Lib.hid (N0.out.alloc 53 #[.int .i64 ((i : Int) + 1), .int .i64 (f : Int), .int .i64 x.a, .int .i64 x.b])
                      have s1 := HCW.out _ N1.out.bel
                      refine HKK.out _ _ s1 (fun hHeld => ?_)
                      clear HKK K
                      try simp only [Act.put, List.getElem_toArray, List.getElem_cons_zero, List.getElem_cons_succ, List.setIfInBounds_toArray, List.set_cons_zero, List.set_cons_succ]
                      refine wpAnyH_ready (rs := [16]) (by kernel_rfl) (by simp) ?_
                      refine (AllReadyH.cons rfl (fun K hK => ?_) AllReadyH.nil)
                      have HKK := Lib.hid hK
                      clear hK
                      refine wp_append_sl _ (.tmp 86) (.tmp 101) 45 rfl w.heap.size 53 l0 _ 4 32 Tryd.underlying45 hl0 hz0 hz1 hz2 rfl (by omega) (.slice A4 m c4) m (loopsV (loopsTo T i)) rfl (N1.out.rowO 0 rfl) _ 1 1 [.int .i64 ((i : Int) + 1), .int .i64 (f : Int), .int .i64 x.a, .int .i64 x.b] rfl (rd_newR _ _ _) (by simp [Value.oneCell']) (by unfold maxLen; omega) (by omega) N1.out.base (m + 1) rfl ?_
                      intro A5 c5 w5 ho5 hg5 hat5
                      have N2 := Lib.hid (N0.out.appd hg5 ho5 (by simpa using hat5))
                      have s2 := HCW.out _ N2.out.bel
                      clear ho5 hg5 hat5
                      refine HKK.out _ _ s2 (fun hHeld => ?_)
                      clear HKK K
                      try simp only [Act.put, List.getElem_toArray, List.getElem_cons_zero, List.getElem_cons_succ, List.setIfInBounds_toArray, List.set_cons_zero, List.set_cons_succ]
                      refine wpAnyH_take (i := 17) (v := ?_) rfl (by kernel_rfl) (by kernel_rfl) (by kernel_rfl) (fun _ _ _ h => h) (Or.inl ⟨by rfl, ?_⟩) (by assumption) ?_
                      rotate_left
                      · intro w' hSw
                        (try dsimp only at hSw)
                        go_simp
                        try with_reducible rfl
                      try simp only [Act.put, List.getElem_toArray, List.getElem_cons_zero, List.getElem_cons_succ, List.setIfInBounds_toArray, List.set_cons_zero, List.set_cons_succ]
                      refine wpAnyH_done (by kernel_rfl) ?_ _
                      have HS2 : Hid (loopsTo T (i + 1) = loopsTo T i ++ [⟨i + 1, f, x.a, x.b⟩]) := Lib.hid (by rw [HS.out, hlf.out])
                      have hap : loopsV (loopsTo T i) ++ [.int .i64 ((i : Int) + 1), .int .i64 (f : Int), .int .i64 x.a, .int .i64 x.b] = loopsV (loopsTo T (i + 1)) := by
                        rw [HS2.out, ← loopsV_snoc]
                        simp [LP.cs]
                      have hln : (loopsTo T (i + 1)).length = m + 1 := by rw [HS2.out, List.length_append, HMM.out]; rfl
                      rw [hap] at N2
                      have HLN := Lib.hid hln
                      have N3 : Hid (Mem w w5 [] [⟨53, 4, A5, m + 1, c5, loopsV (loopsTo T (i + 1))⟩]) := Lib.hid N2.out
                      clear hap hln N0 N1 N2 HCW
                      have HE2 : Hid (entersOk T (i + 1)) := Lib.hid (enters_snoc HE.out HX.out (fun _ => hok.out))
                      go_wp2
                      go_roundw
                      case rel => exact ⟨i + 1, c5, A5, by omega, by go_num, by rw [HLN.out], HE2, by rw [HLN.out]; exact N3⟩
                      case measure => simp [intOf]; omega
                  · have hxa2 : (y.a != x.a) = true := by simp [hxa]
                    have hbad : Hid (¬ LoopsOk T) := Lib.hid (fun h => by
                      have h1 := h.enters i x (by rw [HTL.out]; omega) HX.out H13.out
                      unfold enterOk at h1
                      rw [HRF.out.1] at h1
                      simp only [HRF.out.2.1] at h1
                      simp [hxa] at h1)
                    go_upto_region 18 with fail
                    all_goals
                      have sE : wr.drew.cell? ⟨b, o + f * 4 + 1, none⟩ = some (.int .i64 y.a) ∧ wr.drew.cell? ⟨b, o + i * 4 + 1, none⟩ = some (.int .i64 x.a) := ⟨z1, y1⟩
                      clear y0 y1 y2 y3 z1
                      refine wp_region_held_drew (S := fun w' => w'.cell? ⟨b, o + f * 4 + 1, none⟩ = some (.int .i64 y.a) ∧ w'.cell? ⟨b, o + i * 4 + 1, none⟩ = some (.int .i64 x.a)) (by kernel_rfl) ?_ (fun hHeld => ?_)
                      · exact sE
                      refine wpAnyH_take (i := 0) (v := ?_) rfl (by kernel_rfl) (by kernel_rfl) (by kernel_rfl) (fun _ _ _ h => h) (Or.inl ⟨by rfl, ?_⟩) (by assumption) ?_
                      rotate_left
                      · intro w' hSw
                        (try dsimp only at hSw)
                        go_simp
                        try with_reducible rfl
                      try simp only [Act.put, List.getElem_toArray, List.getElem_cons_zero, List.setIfInBounds_toArray, List.set_cons_zero, List.set_cons_succ]
                      refine wpAnyH_take (i := 1) (v := ?_) rfl (by kernel_rfl) (by kernel_rfl) (by kernel_rfl) (fun _ _ _ h => h) (Or.inl ⟨by rfl, ?_⟩) (by assumption) ?_
                      rotate_left
                      · intro w' hSw
                        (try dsimp only at hSw)
                        go_simp
                        try with_reducible rfl
                      try simp only [Act.put, List.getElem_toArray, List.getElem_cons_zero, List.getElem_cons_succ, List.setIfInBounds_toArray, List.set_cons_zero, List.set_cons_succ]
                      refine wpAnyH_take (i := 2) (v := ?_) rfl (by kernel_rfl) (by kernel_rfl) (by kernel_rfl) (fun _ _ _ h => h) (Or.inl ⟨by rfl, ?_⟩) (by assumption) ?_
                      rotate_left
                      · intro w' hSw
                        (try dsimp only at hSw)
                        go_simp
                        try with_reducible rfl
                      try simp only [Act.put, List.getElem_toArray, List.getElem_cons_zero, List.getElem_cons_succ, List.setIfInBounds_toArray, List.set_cons_zero, List.set_cons_succ]
                      refine wpAnyH_take (i := 3) (v := ?_) rfl (by kernel_rfl) (by kernel_rfl) (by kernel_rfl) (fun _ _ _ h => h) (Or.inl ⟨by rfl, ?_⟩) (by assumption) ?_
                      rotate_left
                      · intro w' hSw
                        (try dsimp only at hSw)
                        go_simp
                        try with_reducible rfl
                      try simp only [Act.put, List.getElem_toArray, List.getElem_cons_zero, List.getElem_cons_succ, List.setIfInBounds_toArray, List.set_cons_zero, List.set_cons_succ]
                      refine wpAnyH_take (i := 4) (v := ?_) rfl (by kernel_rfl) (by kernel_rfl) (by kernel_rfl) (fun _ _ _ h => h) (Or.inl ⟨by rfl, ?_⟩) (by assumption) ?_
                      rotate_left
                      · intro w' hSw
                        (try dsimp only at hSw)
                        go_simp
                        try with_reducible rfl
                      try simp only [Act.put, List.getElem_toArray, List.getElem_cons_zero, List.getElem_cons_succ, List.setIfInBounds_toArray, List.set_cons_zero, List.set_cons_succ]
                      refine wpAnyH_take (i := 5) (v := ?_) rfl (by kernel_rfl) (by kernel_rfl) (by kernel_rfl) (fun _ _ _ h => h) (Or.inl ⟨by rfl, ?_⟩) (by assumption) ?_
                      rotate_left
                      · intro w' hSw
                        (try dsimp only at hSw)
                        go_simp
                        try with_reducible rfl
                      try simp only [Act.put, List.getElem_toArray, List.getElem_cons_zero, List.getElem_cons_succ, List.setIfInBounds_toArray, List.set_cons_zero, List.set_cons_succ]
                      refine wpAnyH_take (i := 6) (v := ?_) rfl (by kernel_rfl) (by kernel_rfl) (by kernel_rfl) (fun _ _ _ h => h) (Or.inl ⟨by rfl, ?_⟩) (by assumption) ?_
                      rotate_left
                      · intro w' hSw
                        (try dsimp only at hSw)
                        go_simp
                        try with_reducible rfl
                      try simp only [Act.put, List.getElem_toArray, List.getElem_cons_zero, List.getElem_cons_succ, List.setIfInBounds_toArray, List.set_cons_zero, List.set_cons_succ]
                      refine wpAnyH_take (i := 7) (v := ?_) rfl (by kernel_rfl) (by kernel_rfl) (by kernel_rfl) (fun _ _ _ h => h) (Or.inl ⟨by rfl, ?_⟩) (by assumption) ?_
                      rotate_left
                      · intro w' hSw
                        (try dsimp only at hSw)
                        go_simp
                        try with_reducible rfl
                      try simp only [Act.put, List.getElem_toArray, List.getElem_cons_zero, List.getElem_cons_succ, List.setIfInBounds_toArray, List.set_cons_zero, List.set_cons_succ]
                      refine wpAnyH_take (i := 8) (v := ?_) rfl (by kernel_rfl) (by kernel_rfl) (by kernel_rfl) (fun _ _ _ h => h) (Or.inl ⟨by rfl, ?_⟩) (by assumption) ?_
                      rotate_left
                      · intro w' hSw
                        (try dsimp only at hSw)
                        go_simp
                        try with_reducible rfl
                      try simp only [Act.put, List.getElem_toArray, List.getElem_cons_zero, List.getElem_cons_succ, List.setIfInBounds_toArray, List.set_cons_zero, List.set_cons_succ]
                      refine wpAnyH_take (i := 9) (v := ?_) rfl (by kernel_rfl) (by kernel_rfl) (by kernel_rfl) (fun _ _ _ h => h) (Or.inl ⟨by rfl, ?_⟩) (by assumption) ?_
                      rotate_left
                      · intro w' hSw
                        (try dsimp only at hSw)
                        go_simp
                        try with_reducible rfl
                      try simp only [Act.put, List.getElem_toArray, List.getElem_cons_zero, List.getElem_cons_succ, List.setIfInBounds_toArray, List.set_cons_zero, List.set_cons_succ]
                      refine wpAnyH_take (i := 10) (v := ?_) rfl (by kernel_rfl) (by kernel_rfl) (by kernel_rfl) (fun _ _ _ h => h) (Or.inl ⟨by rfl, ?_⟩) (by assumption) ?_
                      rotate_left
                      · intro w' hSw
                        (try dsimp only at hSw)
                        go_simp
                        try with_reducible rfl
                      try simp only [Act.put, List.getElem_toArray, List.getElem_cons_zero, List.getElem_cons_succ, List.setIfInBounds_toArray, List.set_cons_zero, List.set_cons_succ]
                      refine wpAnyH_take (i := 11) (v := ?_) rfl (by kernel_rfl) (by kernel_rfl) (by kernel_rfl) (fun _ _ _ h => h) (Or.inl ⟨by rfl, ?_⟩) (by assumption) ?_
                      rotate_left
                      · intro w' hSw
                        (try dsimp only at hSw)
                        go_simp
                        try with_reducible rfl
                      try simp only [Act.put, List.getElem_toArray, List.getElem_cons_zero, List.getElem_cons_succ, List.setIfInBounds_toArray, List.set_cons_zero, List.set_cons_succ]
                      refine wpAnyH_take (i := 12) (v := ?_) rfl (by kernel_rfl) (by kernel_rfl) (by kernel_rfl) (fun _ _ _ h => h) (Or.inl ⟨by rfl, ?_⟩) (by assumption) ?_
                      rotate_left
                      · intro w' hSw
                        (try dsimp only at hSw)
                        go_simp
                        try with_reducible rfl
                      try simp only [Act.put, List.getElem_toArray, List.getElem_cons_zero, List.getElem_cons_succ, List.setIfInBounds_toArray, List.set_cons_zero, List.set_cons_succ]
                      refine wpAnyH_take (i := 13) (v := ?_) rfl (by kernel_rfl) (by kernel_rfl) (by kernel_rfl) (fun _ _ _ h => h) (Or.inl ⟨by rfl, ?_⟩) (by assumption) ?_
                      rotate_left
                      · intro w' hSw
                        (try dsimp only at hSw)
                        go_simp
                        try with_reducible rfl
                      try simp only [Act.put, List.getElem_toArray, List.getElem_cons_zero, List.getElem_cons_succ, List.setIfInBounds_toArray, List.set_cons_zero, List.set_cons_succ]
                      refine wpAnyH_take (i := 14) (v := ?_) rfl (by kernel_rfl) (by kernel_rfl) (by kernel_rfl) (fun _ _ _ h => h) (Or.inl ⟨by rfl, ?_⟩) (by assumption) ?_
                      rotate_left
                      · intro w' hSw
                        (try dsimp only at hSw)
                        go_simp
                        try with_reducible rfl
                      try simp only [Act.put, List.getElem_toArray, List.getElem_cons_zero, List.getElem_cons_succ, List.setIfInBounds_toArray, List.set_cons_zero, List.set_cons_succ]
                      refine wpAnyH_take (i := 15) (v := ?_) rfl (by kernel_rfl) (by kernel_rfl) (by kernel_rfl) (fun _ _ _ h => h) (Or.inl ⟨by rfl, ?_⟩) (by assumption) ?_
                      rotate_left
                      · intro w' hSw
                        (try dsimp only at hSw)
                        go_simp
                        try with_reducible rfl
                      try simp only [Act.put, List.getElem_toArray, List.getElem_cons_zero, List.getElem_cons_succ, List.setIfInBounds_toArray, List.set_cons_zero, List.set_cons_succ]
                      refine wpAnyH_take (i := 16) (v := ?_) rfl (by kernel_rfl) (by kernel_rfl) (by kernel_rfl) (fun _ _ _ h => h) (Or.inl ⟨by rfl, ?_⟩) (by assumption) ?_
                      rotate_left
                      · intro w' hSw
                        (try dsimp only at hSw)
                        go_simp
                        try with_reducible rfl
                      try simp only [Act.put, List.getElem_toArray, List.getElem_cons_zero, List.getElem_cons_succ, List.setIfInBounds_toArray, List.set_cons_zero, List.set_cons_succ]
                      refine wpAnyH_done (by kernel_rfl) ?_ _
                      go_wp2
                      go_ret2
                      exact .inr ⟨hbad.out, rfl, M0.out.drew.bel⟩
              | none =>
                simp only [foundI]
                by_cases hjk : j < k
                · obtain ⟨b', o', y, e', hy, hbl', z0, z1, z2, z3⟩ := instr_at (HT.out.below M0.out.bel) hjk
                  injection e' with e'
                  injection e' with e1 e2
                  subst e1 e2
                  have hsn := round_snoc hy ((i : Int) + 1)
                  rw [HG.out] at hsn
                  have HSN := Lib.hid hsn
                  have hj0 : (0 : Int) ≤ (j : Int) := by omega
                  have hjk2 : (j : Int) < (k : Int) := by omega
                  clear hy hsn hbl' z1 z3
                  by_cases hy14 : y.op = 14
                  · rw [hy14] at z0
                    by_cases hyb : y.b = (i : Int) + 1
                    · have HN : Hid (roundAt (T.take (j + 1)) ((i : Int) + 1) = some j) := Lib.hid (by rw [HSN.out]; simp [hy14, hyb])
                      rw [hyb] at z2
                      clear hy14 hyb
                      go_wp2
                      go_roundw
                      case rel => exact ⟨j + 1, some j, by omega, by go_num, rfl, HN, trivial⟩
                      case measure => simp [intOf]; omega
                    · have HN : Hid (roundAt (T.take (j + 1)) ((i : Int) + 1) = none) := Lib.hid (by rw [HSN.out]; simp [hyb])
                      have hyb2 : (y.b == (i : Int) + 1) = false := by simp [hyb]
                      clear hy14 hyb
                      go_wp2
                      go_roundw
                      case rel => exact ⟨j + 1, none, by omega, by go_num, rfl, HN, trivial⟩
                      case measure => simp [intOf]; omega
                  · have HN : Hid (roundAt (T.take (j + 1)) ((i : Int) + 1) = none) := Lib.hid (by rw [HSN.out]; simp [hy14])
                    have hy2 : (y.op == 14) = false := by simp [hy14]
                    clear hy14
                    go_wp2
                    go_roundw
                    case rel => exact ⟨j + 1, none, by omega, by go_num, rfl, HN, trivial⟩
                    case measure => simp [intOf]; omega
                · obtain rfl : j = k := by omega
                  have hjj : ¬ (j : Int) < (j : Int) := by omega
                  have hbad : Hid (¬ LoopsOk T) := Lib.hid (fun h => by
                    have h1 := h.enters i x (by rw [HTL.out]; omega) HX.out H13.out
                    have h2 := HG.out
                    rw [show T.take j = T from List.take_of_length_le (by rw [HTL.out]; exact Nat.le_refl _)] at h2
                    unfold enterOk at h1
                    rw [h2] at h1
                    cases h1)
                  have hfi2 : (-1 : Int) < (i : Int) + 1 := by omega
                  go_upto_region 18 with fail
                  all_goals
                    refine wp_region_held_drew (S := fun w' => True) (by kernel_rfl) ?_ (fun hHeld => ?_)
                    · exact trivial
                    refine wpAnyH_take (i := 0) (v := ?_) rfl (by kernel_rfl) (by kernel_rfl) (by kernel_rfl) (fun _ _ _ h => h) (Or.inl ⟨by rfl, ?_⟩) (by assumption) ?_
                    rotate_left
                    · intro w' hSw
                      (try dsimp only at hSw)
                      go_simp
                      try with_reducible rfl
                    try simp only [Act.put, List.getElem_toArray, List.getElem_cons_zero, List.setIfInBounds_toArray, List.set_cons_zero, List.set_cons_succ]
                    refine wpAnyH_take (i := 1) (v := ?_) rfl (by kernel_rfl) (by kernel_rfl) (by kernel_rfl) (fun _ _ _ h => h) (Or.inl ⟨by rfl, ?_⟩) (by assumption) ?_
                    rotate_left
                    · intro w' hSw
                      (try dsimp only at hSw)
                      go_simp
                      try with_reducible rfl
                    try simp only [Act.put, List.getElem_toArray, List.getElem_cons_zero, List.getElem_cons_succ, List.setIfInBounds_toArray, List.set_cons_zero, List.set_cons_succ]
                    refine wpAnyH_take (i := 2) (v := ?_) rfl (by kernel_rfl) (by kernel_rfl) (by kernel_rfl) (fun _ _ _ h => h) (Or.inl ⟨by rfl, ?_⟩) (by assumption) ?_
                    rotate_left
                    · intro w' hSw
                      (try dsimp only at hSw)
                      go_simp
                      try with_reducible rfl
                    try simp only [Act.put, List.getElem_toArray, List.getElem_cons_zero, List.getElem_cons_succ, List.setIfInBounds_toArray, List.set_cons_zero, List.set_cons_succ]
                    refine wpAnyH_take (i := 3) (v := ?_) rfl (by kernel_rfl) (by kernel_rfl) (by kernel_rfl) (fun _ _ _ h => h) (Or.inl ⟨by rfl, ?_⟩) (by assumption) ?_
                    rotate_left
                    · intro w' hSw
                      (try dsimp only at hSw)
                      go_simp
                      try with_reducible rfl
                    try simp only [Act.put, List.getElem_toArray, List.getElem_cons_zero, List.getElem_cons_succ, List.setIfInBounds_toArray, List.set_cons_zero, List.set_cons_succ]
                    refine wpAnyH_take (i := 4) (v := ?_) rfl (by kernel_rfl) (by kernel_rfl) (by kernel_rfl) (fun _ _ _ h => h) (Or.inl ⟨by rfl, ?_⟩) (by assumption) ?_
                    rotate_left
                    · intro w' hSw
                      (try dsimp only at hSw)
                      go_simp
                      try with_reducible rfl
                    try simp only [Act.put, List.getElem_toArray, List.getElem_cons_zero, List.getElem_cons_succ, List.setIfInBounds_toArray, List.set_cons_zero, List.set_cons_succ]
                    refine wpAnyH_take (i := 5) (v := undef) rfl (by kernel_rfl) (by kernel_rfl) (by kernel_rfl) (fun _ _ _ h => h) (Or.inr ⟨by rfl, rfl⟩) (by assumption) ?_
                    try simp only [Act.put, List.getElem_toArray, List.getElem_cons_zero, List.getElem_cons_succ, List.setIfInBounds_toArray, List.set_cons_zero, List.set_cons_succ]
                    refine wpAnyH_take (i := 6) (v := undef) rfl (by kernel_rfl) (by kernel_rfl) (by kernel_rfl) (fun _ _ _ h => h) (Or.inr ⟨by rfl, rfl⟩) (by assumption) ?_
                    try simp only [Act.put, List.getElem_toArray, List.getElem_cons_zero, List.getElem_cons_succ, List.setIfInBounds_toArray, List.set_cons_zero, List.set_cons_succ]
                    refine wpAnyH_take (i := 7) (v := undef) rfl (by kernel_rfl) (by kernel_rfl) (by kernel_rfl) (fun _ _ _ h => h) (Or.inr ⟨by rfl, rfl⟩) (by assumption) ?_
                    try simp only [Act.put, List.getElem_toArray, List.getElem_cons_zero, List.getElem_cons_succ, List.setIfInBounds_toArray, List.set_cons_zero, List.set_cons_succ]
                    refine wpAnyH_take (i := 8) (v := undef) rfl (by kernel_rfl) (by kernel_rfl) (by kernel_rfl) (fun _ _ _ h => h) (Or.inr ⟨by rfl, rfl⟩) (by assumption) ?_
                    try simp only [Act.put, List.getElem_toArray, List.getElem_cons_zero, List.getElem_cons_succ, List.setIfInBounds_toArray, List.set_cons_zero, List.set_cons_succ]
                    refine wpAnyH_take (i := 9) (v := undef) rfl (by kernel_rfl) (by kernel_rfl) (by kernel_rfl) (fun _ _ _ h => h) (Or.inr ⟨by rfl, rfl⟩) (by assumption) ?_
                    try simp only [Act.put, List.getElem_toArray, List.getElem_cons_zero, List.getElem_cons_succ, List.setIfInBounds_toArray, List.set_cons_zero, List.set_cons_succ]
                    refine wpAnyH_take (i := 10) (v := undef) rfl (by kernel_rfl) (by kernel_rfl) (by kernel_rfl) (fun _ _ _ h => h) (Or.inr ⟨by rfl, rfl⟩) (by assumption) ?_
                    try simp only [Act.put, List.getElem_toArray, List.getElem_cons_zero, List.getElem_cons_succ, List.setIfInBounds_toArray, List.set_cons_zero, List.set_cons_succ]
                    refine wpAnyH_take (i := 11) (v := undef) rfl (by kernel_rfl) (by kernel_rfl) (by kernel_rfl) (fun _ _ _ h => h) (Or.inr ⟨by rfl, rfl⟩) (by assumption) ?_
                    try simp only [Act.put, List.getElem_toArray, List.getElem_cons_zero, List.getElem_cons_succ, List.setIfInBounds_toArray, List.set_cons_zero, List.set_cons_succ]
                    refine wpAnyH_take (i := 12) (v := undef) rfl (by kernel_rfl) (by kernel_rfl) (by kernel_rfl) (fun _ _ _ h => h) (Or.inr ⟨by rfl, rfl⟩) (by assumption) ?_
                    try simp only [Act.put, List.getElem_toArray, List.getElem_cons_zero, List.getElem_cons_succ, List.setIfInBounds_toArray, List.set_cons_zero, List.set_cons_succ]
                    refine wpAnyH_take (i := 13) (v := undef) rfl (by kernel_rfl) (by kernel_rfl) (by kernel_rfl) (fun _ _ _ h => h) (Or.inr ⟨by rfl, rfl⟩) (by assumption) ?_
                    try simp only [Act.put, List.getElem_toArray, List.getElem_cons_zero, List.getElem_cons_succ, List.setIfInBounds_toArray, List.set_cons_zero, List.set_cons_succ]
                    refine wpAnyH_take (i := 14) (v := undef) rfl (by kernel_rfl) (by kernel_rfl) (by kernel_rfl) (fun _ _ _ h => h) (Or.inr ⟨by rfl, rfl⟩) (by assumption) ?_
                    try simp only [Act.put, List.getElem_toArray, List.getElem_cons_zero, List.getElem_cons_succ, List.setIfInBounds_toArray, List.set_cons_zero, List.set_cons_succ]
                    refine wpAnyH_take (i := 15) (v := undef) rfl (by kernel_rfl) (by kernel_rfl) (by kernel_rfl) (fun _ _ _ h => h) (Or.inr ⟨by rfl, rfl⟩) (by assumption) ?_
                    try simp only [Act.put, List.getElem_toArray, List.getElem_cons_zero, List.getElem_cons_succ, List.setIfInBounds_toArray, List.set_cons_zero, List.set_cons_succ]
                    refine wpAnyH_take (i := 16) (v := ?_) rfl (by kernel_rfl) (by kernel_rfl) (by kernel_rfl) (fun _ _ _ h => h) (Or.inl ⟨by rfl, ?_⟩) (by assumption) ?_
                    rotate_left
                    · intro w' hSw
                      (try dsimp only at hSw)
                      go_simp
                      try with_reducible rfl
                    try simp only [Act.put, List.getElem_toArray, List.getElem_cons_zero, List.getElem_cons_succ, List.setIfInBounds_toArray, List.set_cons_zero, List.set_cons_succ]
                    refine wpAnyH_done (by kernel_rfl) ?_ _
                    go_wp2
                    go_ret2
                    exact .inr ⟨hbad.out, rfl, M0.out.drew.bel⟩
          · have HS := Lib.hid (loops_same HX.out h13)
            have HE2 : Hid (entersOk T (i + 1)) := Lib.hid (enters_snoc HE.out HX.out (fun h => absurd h h13))
            have hz : (x.op != 13) = true := by simp [h13]
            clear h13
            go_wp2
            go_roundw
            case rel => exact ⟨i + 1, c4, A4, by omega, by go_num, by rw [HS.out], HE2, by rw [HS.out]; exact M0⟩
            case measure => simp [intOf]; omega
        · obtain rfl : i = k := by omega
          have hii : ¬ (i : Int) < (i : Int) := by omega
          have hml := loops_len (T := T) i
          have HML : Hid (loopsTo T T.length = loopsTo T i) := Lib.hid (by rw [HTL.out])
          obtain ⟨L, hL⟩ : ∃ L, loopsTo T i = L := ⟨_, rfl⟩
          rw [hL] at M0 hml HML ⊢
          have HLL := Lib.hid hL
          obtain ⟨m, hm⟩ : ∃ m, L.length = m := ⟨_, rfl⟩
          rw [hm] at M0 hml ⊢
          have HM := Lib.hid hm
          clear hL hm hlt hi
          by_cases hqm : q = m
          · subst hqm
            have hne : ((q : Int) != (q : Int)) = false := by simp
            have M1 : Hid (∃ Ks, Mem w wr Ks [⟨53, 4, A4, q, c4, loopsV L⟩]) := Lib.hid ⟨_, M0.out⟩
            clear M0
            go_wp2
            go_loopw [10] (fun v10 wr => ∃ (p : Nat), p ≤ q ∧ v10 = .int .i64 p ∧ Hid (PairsTo L p) ∧ Hid (∃ Ks, Mem w wr Ks [⟨53, 4, A4, q, c4, loopsV L⟩])) (fun v10 _ => q - (intOf v10).toNat)
            case atStart => exact ⟨0, Nat.zero_le _, rfl, Lib.hid (pairs_zero L), M1⟩
            case round =>
              clear M1
              obtain ⟨p, hp, rfl, HP, M1⟩ := hrel
              by_cases hlt : p < q
              · have hp0 : (0 : Int) ≤ (p : Int) := by omega
                have hpq : (p : Int) < (q : Int) := by omega
                go_wp2
                go_loopw [11] (fun v11 wr => ∃ (r : Nat), p + 1 ≤ r ∧ r ≤ q ∧ v11 = .int .i64 r ∧ Hid (PairsAt L p r) ∧ Hid (∃ Ks, Mem w wr Ks [⟨53, 4, A4, q, c4, loopsV L⟩])) (fun v11 _ => q - (intOf v11).toNat)
                case atStart => exact ⟨p + 1, Nat.le_refl _, by omega, by go_num, Lib.hid (pairs_start L p), M1⟩
                case round =>
                  clear M1
                  obtain ⟨r, hpr, hr, rfl, HA, M1⟩ := hrel
                  obtain ⟨Ks, M1⟩ := M1.out
                  have M1 := Lib.hid M1
                  by_cases hrq : r < q
                  · obtain ⟨b, o, la, rfl, hla, hbl, a0, a1, a2, a3⟩ := loop_at (M1.out.rdO 0 rfl) hlt
                    obtain ⟨b', o', lb, e', hlb, _, b0, b1, b2, b3⟩ := loop_at (M1.out.rdO 0 rfl) hrq
                    injection e' with e'
                    injection e' with e1 e2
                    subst e1 e2
                    have HLA := Lib.hid (And.intro hla hlb)
                    have hr0 : (0 : Int) ≤ (r : Int) := by omega
                    have hrq2 : (r : Int) < (q : Int) := by omega
                    clear hla hlb
                    go_upto_region 29 with fail
                    go_cut [12, 13] from 121 to 128 (fun v12 v13 wc => ∃ ga gc Ks, v12 = .pointer (some ⟨ga, 0, none⟩) ∧ v13 = .pointer (some ⟨gc, 0, none⟩) ∧ Hid (Mem w wc (⟨ga, 53, #[.int .i64 la.fr, .int .i64 la.to, .int .i64 la.counter, .int .i64 la.times]⟩ :: ⟨gc, 53, #[.int .i64 lb.fr, .int .i64 lb.to, .int .i64 lb.counter, .int .i64 lb.times]⟩ :: Ks) [⟨53, 4, some ⟨b, o, none⟩, q, c4, loopsV L⟩]))
                    case first =>
                      go_region
                      all_goals go_wp2
                      all_goals go_meet
                      all_goals first
                        | exact ⟨_, _, _, rfl, rfl, Lib.hid (by
                            have h := ((M1.out.alloc 53 #[.int .i64 la.fr, .int .i64 la.to, .int .i64 la.counter, .int .i64 la.times]).alloc 53 #[.int .i64 lb.fr, .int .i64 lb.to, .int .i64 lb.counter, .int .i64 lb.times]).drew.upK 1 rfl
                            simp only [World.size_alloc] at h
                            exact h)⟩
                        | exact ⟨_, _, _, rfl, rfl, Lib.hid (by
                            have h := ((M1.out.alloc 53 #[.int .i64 lb.fr, .int .i64 lb.to, .int .i64 lb.counter, .int .i64 lb.times]).alloc 53 #[.int .i64 la.fr, .int .i64 la.to, .int .i64 la.counter, .int .i64 la.times]).drew
                            simp only [World.size_alloc] at h
                            exact h)⟩
                    case rest =>
                      obtain ⟨ga, gc, Ks', rfl, rfl, M2⟩ := hcut
                      clear M1 hbl a0 a1 a2 a3 b0 b1 b2 b3
                      have a0 : wc.cell? ⟨ga, 0, none⟩ = some (.int .i64 la.fr) := M2.out.cellK 0 rfl 0
                      have a1 : wc.cell? ⟨ga, 1, none⟩ = some (.int .i64 la.to) := M2.out.cellK 0 rfl 1
                      have a2 : wc.cell? ⟨ga, 2, none⟩ = some (.int .i64 la.counter) := M2.out.cellK 0 rfl 2
                      have b0 : wc.cell? ⟨gc, 0, none⟩ = some (.int .i64 lb.fr) := M2.out.cellK 1 rfl 0
                      have b1 : wc.cell? ⟨gc, 1, none⟩ = some (.int .i64 lb.to) := M2.out.cellK 1 rfl 1
                      have b2 : wc.cell? ⟨gc, 2, none⟩ = some (.int .i64 lb.counter) := M2.out.cellK 1 rfl 2
                      have MR : Hid (∃ Ks, Mem w wc Ks [⟨53, 4, some ⟨b, o, none⟩, q, c4, loopsV L⟩]) := Lib.hid ⟨_, M2.out⟩
                      have HBAD : Hid (¬ pairOk la lb → ¬ LoopsOk T) := Lib.hid (fun h h2 => by
                        have h3 := h2.pairs
                        rw [HML.out] at h3
                        exact pairs_bad (by omega) HLA.out.1 HLA.out.2 h h3)
                      by_cases h1 : la.to < lb.fr
                      · have h1i : (la.to : Int) < (lb.fr : Int) := by omega
                        have HN : Hid (PairsAt L p (r + 1)) := Lib.hid (pairs_step HA.out HLA.out.1 HLA.out.2 (.inl h1))
                        go_wp2
                        all_goals go_roundw
                        all_goals first
                          | exact ⟨r + 1, by omega, by omega, by go_num, HN, MR⟩
                          | (simp [intOf]; omega)
                      · have h1i : ¬ (la.to : Int) < (lb.fr : Int) := by omega
                        by_cases h2 : lb.to < la.to
                        · have h2i : (lb.to : Int) < (la.to : Int) := by omega
                          by_cases h3 : la.counter = lb.counter
                          · have h3i : (la.counter == lb.counter) = true := by simp [h3]
                            have hb := Lib.hid (HBAD.out (fun hp => by rcases hp with hp | hp; exact h1 hp; exact hp.2 h3))
                            clear h3
                            go_wp2
                            go_ret2
                            exact .inr ⟨hb.out, rfl, M2.out.bel⟩
                          · have h3i : (la.counter == lb.counter) = false := by simp [h3]
                            have HN : Hid (PairsAt L p (r + 1)) := Lib.hid (pairs_step HA.out HLA.out.1 HLA.out.2 (.inr ⟨h2, h3⟩))
                            clear h3
                            go_wp2
                            all_goals go_roundw
                            all_goals first
                              | exact ⟨r + 1, by omega, by omega, by go_num, HN, MR⟩
                              | (simp [intOf]; omega)
                        · have h2i : ¬ (lb.to : Int) < (la.to : Int) := by omega
                          have hb := Lib.hid (HBAD.out (fun hp => by rcases hp with hp | hp; exact h1 hp; exact h2 hp.1))
                          go_wp2
                          go_ret2
                          exact .inr ⟨hb.out, rfl, M2.out.bel⟩
                  · obtain rfl : r = q := by omega
                    have hrr : ¬ (r : Int) < (r : Int) := by omega
                    have HN : Hid (PairsTo L (p + 1)) := Lib.hid (pairs_next HP.out (by rw [HM.out]; exact HA.out))
                    have MR : Hid (∃ Ks, Mem w wr Ks [⟨53, 4, A4, r, c4, loopsV L⟩]) := Lib.hid ⟨_, M1.out⟩
                    go_wp2
                    go_roundw
                    case rel => exact ⟨p + 1, by omega, by go_num, HN, MR⟩
                    case measure => simp [intOf]; omega
              · obtain rfl : p = q := by omega
                have hpp : ¬ (p : Int) < (p : Int) := by omega
                have hgood : Hid (LoopsOk T) := Lib.hid ⟨by rw [HTL.out]; exact HE.out, by rw [HML.out, HM.out]; exact HQ.out, by rw [HML.out]; exact pairs_all (by rw [HM.out]; exact HP.out)⟩
                obtain ⟨Ks, M1⟩ := M1.out
                have MF := Lib.hid M1.rows
                clear M1
                go_wp2
                go_ret2
                refine .inl ⟨hgood.out, ?_⟩
                rw [HLL.out, HM.out]
                exact ⟨A4, c4, rfl, MF.out⟩
          · have hne : ((q : Int) != (m : Int)) = true := by simp; omega
            have hbad : Hid (¬ LoopsOk T) := Lib.hid (fun h => by
              have h1 := h.count
              rw [HML.out, HM.out, HQ.out] at h1
              exact hqm h1)
            go_wp2
            go_ret2
            exact .inr ⟨hbad.out, rfl, M0.out.bel⟩
end Go.Proofs.YtiogcbckhaknmaaDoor.Vf
