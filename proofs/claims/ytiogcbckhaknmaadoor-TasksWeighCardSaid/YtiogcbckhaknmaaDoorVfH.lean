/-
  The program's levels: the walk. Conditions: the text reads, within the reach; its instructions may be, its loops and jumps too.
-/
import Derived.Test.YtiogcbckhaknmaaDoorVfG
namespace Go.Proofs.YtiogcbckhaknmaaDoor.Vf
open Go.RowKit Go.Proofs.YtiogcbckhaknmaaDoor.W Go.Proofs.YtiogcbckhaknmaaDoor.Ints Go.Proofs.YtiogcbckhaknmaaDoor.Cod Go.Proofs.YtiogcbckhaknmaaDoor.Cell

theorem first_ups (n : Nat) : (List.replicate (n + 1) (0 : Int)).set 0 1 = ups (first n) := by
  simp [first, ups, List.replicate_succ]
theorem hbd_meet {H : List Int} {t : Nat} {h : Int} (hb : HBd H) (hh : 0 ≤ h ∧ h ≤ 1000) : HBd (meetF H t h) := by
  unfold meetF
  split
  · intro x hx
    rcases List.mem_or_eq_of_mem_set hx with h1 | h1
    · exact hb x h1
    · rw [h1]; omega
  · exact hb
theorem meet_len (H : List Int) (t : Nat) (h : Int) : (meetF H t h).length = H.length := by
  unfold meetF
  split
  · exact List.length_set
  · rfl
/-- what the switch leaves -/
structure SwR (H : List Int) (ts : List Int) (h : Int) (ok : Bool) (H2 : List Int) : Prop where
  yes : ok = true → okAll H ts h ∧ H2 = setAll H ts h
  no : ok = false → ¬ okAll H ts h
theorem okAll_one {H : List Int} {t h : Int} : okAll H [t] h ↔ (hAt H t < 0 ∨ hAt H t = h) := by simp [okAll]
theorem okAll_two {H : List Int} {s t h : Int} : okAll H [s, t] h ↔ (hAt H s < 0 ∨ hAt H s = h) ∧ (hAt H t < 0 ∨ hAt H t = h) := by simp [okAll]
theorem sw_one {H : List Int} {t : Nat} {h : Int} (ht : t < H.length) : SwR H [(t : Int)] h (decide (hAt H (t : Int) < 0 ∨ hAt H (t : Int) = h)) (meetF H t h) := by
  refine ⟨fun h1 => ?_, fun h1 => ?_⟩
  · have h2 := of_decide_eq_true h1
    exact ⟨okAll_one.2 h2, by rw [meet_ok ht h2]; rfl⟩
  · exact fun h2 => of_decide_eq_false h1 (okAll_one.1 h2)
/-- a Fall: its place first, then the next one -/
theorem sw_fall {H : List Int} {a i : Nat} {h : Int} (ha : a < H.length) (hi : i < H.length) (h1 : hAt H (a : Int) < 0 ∨ hAt H (a : Int) = h) :
    SwR H [(i : Int), (a : Int)] h (decide (hAt (meetF H a h) (i : Int) < 0 ∨ hAt (meetF H a h) (i : Int) = h)) (meetF (meetF H a h) i h) := by
  rw [meet_ok ha h1]
  by_cases e : a = i
  · subst e
    have h2 : hAt (H.set a h) (a : Int) < 0 ∨ hAt (H.set a h) (a : Int) = h := .inr (hAt_same ha)
    refine ⟨fun _ => ⟨okAll_two.2 ⟨h1, h1⟩, ?_⟩, fun h3 => absurd h2 (of_decide_eq_false h3)⟩
    rw [meet_ok (by rw [List.length_set]; exact ha) h2]
    rfl
  · rw [hAt_other e]
    refine ⟨fun h3 => ?_, fun h3 h4 => of_decide_eq_false h3 (okAll_two.1 h4).1⟩
    have h4 := of_decide_eq_true h3
    refine ⟨okAll_two.2 ⟨h4, h1⟩, ?_⟩
    rw [meet_ok (by rw [List.length_set]; exact hi) (by rw [hAt_other e]; exact h4)]
    show (H.set a h).set i h = (H.set i h).set a h
    rw [List.set_comm _ _ (fun e2 => e e2)]
/-- a Round: what it goes back to has been reached -/
theorem sw_round {H : List Int} {b i : Nat} {h : Int} (hb : b < H.length) (hi : i < H.length) (hbi : b ≠ i) (_h0 : 0 ≤ hAt H (b : Int)) (h1 : hAt H (b : Int) = h) :
    SwR H [(i : Int), (b : Int)] h (decide (hAt H (i : Int) < 0 ∨ hAt H (i : Int) = h)) (meetF H i h) := by
  refine ⟨fun h3 => ?_, fun h3 h4 => of_decide_eq_false h3 (okAll_two.1 h4).1⟩
  have h4 := of_decide_eq_true h3
  refine ⟨okAll_two.2 ⟨h4, .inr h1⟩, ?_⟩
  rw [meet_ok hi h4]
  show H.set i h = (H.set i h).set b h
  exact (set_self (by rw [List.length_set]; exact hb) (by rw [hAt_other (Ne.symm hbi)]; exact h1)).symm
set_option maxRecDepth 100000 in
set_option maxHeartbeats 12800000 in
theorem levels_any (A : Option Addr) (n c : Nat) (T : List IN) (w : World) (hT : Rd w 4 A n (textV T)) (hn : n ≤ 100000) (hts : TsOk T) (hR : RoundOk T T.length) (hJ : JumpsOk T (loopsTo T T.length) T.length) :
    Calls Tryd.prog 31 #[.slice A n c] w fun e w' => e = .returned (.bool (levF T)) ∧ Below w.heap.size w w' := by
  have htl : T.length = n := Rd.rec_len IN.size (by omega) hT
  have hmk := make_any (n + 1) (by omega) w
  obtain ⟨R, hRR⟩ : ∃ R, levF T = R := ⟨_, rfl⟩
  rw [hRR]
  have HR := Lib.hid hRR
  have HT := Lib.hid hT
  have HTL := Lib.hid htl
  have HTS := Lib.hid hts
  have HRO := Lib.hid hR
  have HJ := Lib.hid hJ
  clear hT htl hRR hts hR hJ
  have hwn2 : (n : Int) + 1 = ((n + 1 : Nat) : Int) := by omega
  rw [← hwn2] at hmk
  clear hwn2
  have M0 : Hid (Mem w ((w.alloc (.cells (noughts (n + 1)) 3)).alloc (.cells #[.slice (some ⟨w.heap.size, 0, none⟩) (n + 1) (n + 1)] 25)) [⟨w.heap.size + 1, 25, #[.slice (some ⟨w.heap.size, 0, none⟩) (n + 1) (n + 1)]⟩] [⟨3, 1, some ⟨w.heap.size, 0, none⟩, n + 1, n + 1, ints (List.replicate (n + 1) 0)⟩]) := Lib.hid (by
    have h := ((Mem.start w).made (below_alloc _) (make_own (n + 1) (by omega) w (Nat.le_refl _))).alloc 25 #[.slice (some ⟨w.heap.size, 0, none⟩) (n + 1) (n + 1)]
    simpa only [World.size_alloc] using h)
  go_enter Tryd.func31, Tryd.ntmps31
  go_upto_region 2 with fail
  clear hmk
  generalize World.alloc (World.alloc w _) _ = w1 at M0 ⊢
  generalize w.heap.size = gh at M0 ⊢
  have x0 : w1.cell? ⟨gh + 1, 0, none⟩ = some (.slice (some ⟨gh, 0, none⟩) (n + 1) (n + 1)) := M0.out.cellK 0 rfl 0
  have hu := own_at (M0.out.rowO 0 rfl) (show 0 < n + 1 by omega)
  have hfz := (M0.out.rowO 0 rfl).frozenAt 0
  have hn0 : (0 : Int) < (n : Int) + 1 := by omega
  have M1 : Hid (Mem w (w1.setCell ⟨gh, 0, none⟩ (.int .i64 1)) [⟨gh + 1, 25, #[.slice (some ⟨gh, 0, none⟩) (n + 1) (n + 1)]⟩] [⟨3, 1, some ⟨gh, 0, none⟩, n + 1, n + 1, ints (ups (first n))⟩]) := Lib.hid (by
    have h := M0.out.put (j := 0) (.int .i64 1)
    rw [ints_set, first_ups] at h
    exact h)
  have HL0 : Hid (levTo T 0 = some (first n)) := Lib.hid (by rw [← HTL.out]; rfl)
  have HRE : Hid (Reach T (first n)) := Lib.hid (by rw [← HTL.out]; exact reach_first T)
  go_upto_region 4 with fail
  clear x0 hu hfz M0
  generalize World.setCell _ _ _ = w2 at M1 ⊢
  have M2 : Hid (∃ Ks, Mem w w2 (⟨gh + 1, 25, #[.slice (some ⟨gh, 0, none⟩) (n + 1) (n + 1)]⟩ :: Ks) [⟨3, 1, some ⟨gh, 0, none⟩, n + 1, n + 1, ints (ups (first n))⟩]) := Lib.hid ⟨_, M1.out⟩
  clear M1
  go_wp2
  go_loopw [20] (fun v20 wr => ∃ (k : Nat) (H : List Int), k ≤ n ∧ v20 = .int .i64 k ∧ Hid (levTo T k = some H) ∧ Hid (Reach T H) ∧ Hid (∃ Ks, Mem w wr (⟨gh + 1, 25, #[.slice (some ⟨gh, 0, none⟩) (n + 1) (n + 1)]⟩ :: Ks) [⟨3, 1, some ⟨gh, 0, none⟩, n + 1, n + 1, ints (ups H)⟩])) (fun v20 _ => n - (intOf v20).toNat)
  case atStart => exact ⟨0, first n, Nat.zero_le _, rfl, HL0, HRE, M2⟩
  case round =>
    clear M2 HL0 HRE
    obtain ⟨k, H, hk, rfl, HL, HRE, M2⟩ := hrel
    obtain ⟨Ks, M3⟩ := M2.out
    have M3 := Lib.hid M3
    clear M2
    have hlen := lev_len HL.out
    rw [HTL.out] at hlen
    have HLEN := Lib.hid hlen
    have HBD := Lib.hid (hbd_lev HL.out)
    clear hlen
    have x0 : wr.cell? ⟨gh + 1, 0, none⟩ = some (.slice (some ⟨gh, 0, none⟩) (n + 1) (n + 1)) := M3.out.cellK 0 rfl 0
    by_cases hlt : k < n
    · obtain ⟨b, o, x, rfl, hx, hbl, c0, c1, c2, c3⟩ := instr_at (HT.out.below M3.out.bel) hlt
      have HX := Lib.hid hx
      have HSN := Lib.hid (lev_snoc HL.out hx)
      have hk0 : (0 : Int) ≤ (k : Int) := by omega
      have hkn : (k : Int) < (n : Int) := by omega
      have hkn1 : (k : Int) < (n : Int) + 1 := by omega
      obtain ⟨hb1, hb2⟩ := hbd_at HBD.out (k : Int)
      obtain ⟨tb1, tb2⟩ := takes_bd x
      obtain ⟨lb1, lb2⟩ := leaves_bd x
      have HTSB := Lib.hid (ts_bd HTS.out hx)
      have htx := HTS.out k x hx
      have M4 := Lib.hid (M3.out.alloc 50 #[.int .i64 x.op, .int .i64 x.a, .int .i64 x.b, .int .i64 x.c])
      clear hx
      go_upto_region 7 with fail
      clear hbl c0 c1 c2 c3 x0 M3
      generalize World.alloc _ _ = w3 at M4 ⊢
      generalize wr.heap.size = g6 at M4 ⊢
      have x0 : w3.cell? ⟨gh + 1, 0, none⟩ = some (.slice (some ⟨gh, 0, none⟩) (n + 1) (n + 1)) := M4.out.cellK 1 rfl 0
      have hu := up_cell (M4.out.rowO 0 rfl) HLEN.out (show k < n + 1 by omega)
      generalize hq : hAt H (k : Int) = h0 at hu hb1 hb2
      have HQ := Lib.hid hq
      clear hq
      by_cases hneg : h0 < 0
      · have e0 : h0 = -1 := by omega
        have HN : Hid (levTo T (k + 1) = some H) := Lib.hid (by rw [HSN.out]; unfold stepF; rw [HQ.out, if_pos hneg])
        have MN : Hid (∃ Ks, Mem w w3 (⟨gh + 1, 25, #[.slice (some ⟨gh, 0, none⟩) (n + 1) (n + 1)]⟩ :: Ks) [⟨3, 1, some ⟨gh, 0, none⟩, n + 1, n + 1, ints (ups H)⟩]) := Lib.hid ⟨_, M4.out.delK 0⟩
        subst e0
        have hu' : w3.cell? ⟨gh, k, none⟩ = some (.int .i64 0) := hu
        clear hu hneg M4
        go_wp2
        go_roundw
        case rel => exact ⟨k + 1, H, by omega, by go_num, HN, HRE, MN⟩
        case measure => simp [intOf]; omega
      · have hz : ((h0 + 1 : Int) == 0) = false := by simp; omega
        have y0 : w3.cell? ⟨g6, 0, none⟩ = some (.int .i64 x.op) := M4.out.cellK 0 rfl 0
        have y1 : w3.cell? ⟨g6, 1, none⟩ = some (.int .i64 x.a) := M4.out.cellK 0 rfl 1
        have y2 : w3.cell? ⟨g6, 2, none⟩ = some (.int .i64 x.b) := M4.out.cellK 0 rfl 2
        have y3 : w3.cell? ⟨g6, 3, none⟩ = some (.int .i64 x.c) := M4.out.cellK 0 rfl 3
        generalize htt : takesF x = tk at *
        generalize hll : leavesF x = lv at *
        have HTK := Lib.hid htt
        have HLV := Lib.hid hll
        clear htt hll
        go_wp2_with fail
        refine (effect_any x w3).mono ?_
        rintro e w4 ⟨rfl, hb4⟩
        dsimp only
        rw [HTK.out, HLV.out]
        have M5 := Lib.hid (M4.out.below hb4)
        clear hb4 M4 x0 hu y0 y1 y2 y3 hz
        have x0 : w4.cell? ⟨gh + 1, 0, none⟩ = some (.slice (some ⟨gh, 0, none⟩) (n + 1) (n + 1)) := M5.out.cellK 1 rfl 0
        have hu : w4.cell? ⟨gh, k, none⟩ = some (.int .i64 (h0 + 1)) := by rw [← HQ.out]; exact up_cell (M5.out.rowO 0 rfl) HLEN.out (show k < n + 1 by omega)
        obtain ⟨h1, hh1⟩ : ∃ h1, h0 - tk = h1 := ⟨_, rfl⟩
        have HH1 := Lib.hid hh1
        have hr1 : -3 ≤ h1 := by omega
        have hr2 : h1 ≤ 1000 := by omega
        have hsub : h0 + 1 - tk = h1 + 1 := by omega
        have HTKB : Hid (0 ≤ tk ∧ tk ≤ 3) := Lib.hid ⟨by omega, by omega⟩
        have HNEG : Hid (0 ≤ h0) := Lib.hid (by omega)
        clear hh1
        go_upto_region 10 with fail
        try rw [hsub]
        clear hsub x0 hu tb1 tb2 hb1 hb2 hneg
        by_cases hlow : h1 < 0
        · have hF : Hid (R = false) := Lib.hid (by
            rw [← HR.out]
            refine lev_false (k := k + 1) ?_ (by rw [HTL.out]; omega)
            rw [HSN.out]
            unfold stepF
            rw [HQ.out, HTK.out, HLV.out, HH1.out, if_neg (by have := HNEG.out; omega), if_pos (.inl (by omega))])
          have hlow2 : h1 + 1 < 1 := by omega
          go_wp2
          go_ret
          exact ⟨ret_bool (by rw [hF.out]), M5.out.bel⟩
        · have hlow2 : ¬ h1 + 1 < 1 := by omega
          obtain ⟨h, hhh⟩ : ∃ h, h1 + lv = h := ⟨_, rfl⟩
          have hadd : h1 + 1 + lv = h + 1 := by omega
          have HST : Hid (¬ 1000 < h → stepF H k x = if okAll H (tsF k x) h then some (setAll H (tsF k x) h) else none) := Lib.hid (fun hno => by
            unfold stepF
            rw [HQ.out, HTK.out, HLV.out, HH1.out, hhh, if_neg (by have := HNEG.out; omega), if_neg (by omega)])
          by_cases hhigh : 1000 < h
          · have hF : Hid (R = false) := Lib.hid (by
              rw [← HR.out]
              refine lev_false (k := k + 1) ?_ (by rw [HTL.out]; omega)
              rw [HSN.out]
              unfold stepF
              rw [HQ.out, HTK.out, HLV.out, HH1.out, hhh, if_neg (by have := HNEG.out; omega), if_pos (.inr (by omega))])
            have hhi2 : 1000 < h1 + 1 + lv - 1 := by omega
            clear hhh hadd HST
            go_wp2
            go_ret
            exact ⟨ret_bool (by rw [hF.out]), M5.out.bel⟩
          · have hhi2 : ¬ 1000 < h1 + 1 + lv - 1 := by omega
            have hz0 : 0 ≤ h := by omega
            have hz1 : h ≤ 1000 := by omega
            go_upto_region 15 with fail
            try rw [hadd]
            clear hhh hadd hhi2 hlow hlow2 hhigh
            have HST2 := Lib.hid (HST.out (by omega))
            clear HST
            have x0 : w4.cell? ⟨gh + 1, 0, none⟩ = some (.slice (some ⟨gh, 0, none⟩) (n + 1) (n + 1)) := M5.out.cellK 1 rfl 0
            have y0 : w4.cell? ⟨g6, 0, none⟩ = some (.int .i64 x.op) := M5.out.cellK 0 rfl 0
            have y1 : w4.cell? ⟨g6, 1, none⟩ = some (.int .i64 x.a) := M5.out.cellK 0 rfl 1
            have y2 : w4.cell? ⟨g6, 2, none⟩ = some (.int .i64 x.b) := M5.out.cellK 0 rfl 2
            have MU := Lib.hid (M5.out.upK 1 rfl)
            clear M5
            go_upto_block 2 with (fail)
            go_cut [10] from 49 to 92 (fun v10 wz => ∃ (okb : Bool) (H2 : List Int), v10 = .bool okb ∧ Hid (SwR H (tsF k x) h okb H2) ∧ Hid (∃ Ks, Mem w wz (⟨gh + 1, 25, #[.slice (some ⟨gh, 0, none⟩) (n + 1) (n + 1)]⟩ :: Ks) [⟨3, 1, some ⟨gh, 0, none⟩, n + 1, n + 1, ints (ups H2)⟩]))
            case first =>
              have hk1 : (k + 1 : Nat) < n + 1 := by omega
              by_cases h11 : x.op = 11
              · obtain ⟨a1, a2⟩ := htx.1 (.inl h11)
                rw [HTL.out] at a2
                obtain ⟨an, han⟩ : ∃ an : Nat, x.a = (an : Int) := ⟨x.a.toNat, by omega⟩
                have E := Lib.hid (ts_jump (i := k) h11)
                have HAN := Lib.hid han
                have z1 : (x.op == 11) = true := by simp [h11]
                have hlt2 : an < n + 1 := by omega
                rw [han] at y1
                clear h11 htx a1 a2 han
                go_wp2_with fail
                refine (meet_any (gh + 1) gh (n + 1) H an h MU.out HLEN.out HBD.out hlt2 hz0 (by omega)).mono ?_
                rintro e w6 ⟨rfl, hm⟩
                dsimp only
                have M6 := Lib.hid hm
                clear hm MU
                go_wp2
                go_meet
                exact ⟨_, _, rfl, Lib.hid (by rw [E.out, HAN.out]; exact sw_one (by rw [HLEN.out]; exact hlt2)), Lib.hid ⟨_, M6.out⟩⟩
              · have z1 : (x.op == 11) = false := by simp [h11]
                by_cases h12 : x.op = 12
                · obtain ⟨a1, a2⟩ := htx.1 (.inr h12)
                  rw [HTL.out] at a2
                  obtain ⟨an, han⟩ : ∃ an : Nat, x.a = (an : Int) := ⟨x.a.toNat, by omega⟩
                  have E := Lib.hid (ts_fall (i := k) h12)
                  have HAN := Lib.hid han
                  have z2 : (x.op == 12) = true := by simp [h12]
                  have hlt2 : an < n + 1 := by omega
                  rw [han] at y1
                  clear h11 h12 htx a1 a2 han
                  go_wp2_with fail
                  refine (meet_any (gh + 1) gh (n + 1) H an h MU.out HLEN.out HBD.out hlt2 hz0 (by omega)).mono ?_
                  rintro e w6 ⟨rfl, hm⟩
                  dsimp only
                  have M6 := Lib.hid hm
                  clear hm MU
                  by_cases ho1 : hAt H (an : Int) < 0 ∨ hAt H (an : Int) = h
                  · have d1 : decide (hAt H (an : Int) < 0 ∨ hAt H (an : Int) = h) = true := decide_eq_true ho1
                    have HO1 := Lib.hid ho1
                    rw [d1]
                    clear d1 ho1
                    go_wp2_with fail
                    refine (meet_any (gh + 1) gh (n + 1) (meetF H an h) (k + 1) h M6.out (by rw [meet_len]; exact HLEN.out) (hbd_meet HBD.out ⟨hz0, hz1⟩) hk1 hz0 (by omega)).mono ?_
                    rintro e w7 ⟨rfl, hm⟩
                    dsimp only
                    have M7 := Lib.hid hm
                    clear hm M6
                    go_wp2
                    go_meet
                    exact ⟨_, _, rfl, Lib.hid (by rw [E.out, HAN.out]; have hs := sw_fall (i := k + 1) (h := h) (by rw [HLEN.out]; exact hlt2) (by rw [HLEN.out]; exact hk1) HO1.out; simpa using hs), Lib.hid ⟨_, M7.out⟩⟩
                  · have d1 : decide (hAt H (an : Int) < 0 ∨ hAt H (an : Int) = h) = false := decide_eq_false ho1
                    have HO1 := Lib.hid ho1
                    rw [d1]
                    clear d1 ho1
                    go_wp2
                    go_meet
                    exact ⟨false, _, rfl, Lib.hid ⟨(fun h => by cases h), fun _ h2 => by rw [E.out, HAN.out] at h2; exact HO1.out (okAll_two.1 h2).2⟩, Lib.hid ⟨_, M6.out⟩⟩
                · have z2 : (x.op == 12) = false := by simp [h12]
                  by_cases h14 : x.op = 14
                  · obtain ⟨a1, a2⟩ := htx.2 h14
                    obtain ⟨bn, hbn⟩ : ∃ bn : Nat, x.b = (bn : Int) := ⟨x.b.toNat, by omega⟩
                    have E := Lib.hid (ts_round (i := k) h14)
                    have HBN := Lib.hid hbn
                    have HRB : Hid (0 ≤ hAt H (bn : Int)) := Lib.hid (by
                      obtain ⟨l, hl, hlf, hlt3⟩ := round_is HRO.out HX.out h14 a1
                      have h4 := HRE.out l hl k ⟨by rw [hlf]; exact a2, by rw [hlt3]; omega⟩ (by rw [HQ.out]; exact HNEG.out)
                      rw [hlf, hbn] at h4
                      exact h4)
                    have z3 : (x.op == 14) = true := by simp [h14]
                    have hlt2 : bn < n + 1 := by omega
                    have hbk : bn ≠ k + 1 := by omega
                    have hb0 : (0 : Int) ≤ (bn : Int) := by omega
                    have hbn1 : (bn : Int) < (n : Int) + 1 := by omega
                    have hu := up_cell (MU.out.rowO 0 rfl) HLEN.out hlt2
                    rw [hbn] at y2
                    clear h11 h12 h14 htx a1 a2 hbn
                    by_cases ho1 : hAt H (bn : Int) = h
                    · have HO1 := Lib.hid ho1
                      rw [ho1] at hu
                      clear ho1
                      go_wp2_with fail
                      refine (meet_any (gh + 1) gh (n + 1) H (k + 1) h MU.out HLEN.out HBD.out hk1 hz0 (by omega)).mono ?_
                      rintro e w7 ⟨rfl, hm⟩
                      dsimp only
                      have M7 := Lib.hid hm
                      clear hm MU
                      go_wp2
                      go_meet
                      exact ⟨_, _, rfl, Lib.hid (by rw [E.out, HBN.out]; have hs := sw_round (i := k + 1) (h := h) (by rw [HLEN.out]; exact hlt2) (by rw [HLEN.out]; exact hk1) hbk HRB.out HO1.out; simpa using hs), Lib.hid ⟨_, M7.out⟩⟩
                    · have HO1 := Lib.hid ho1
                      have d1 : (hAt H (bn : Int) + 1 == h + 1) = false := by simp; omega
                      clear ho1
                      go_wp2
                      go_meet
                      exact ⟨false, H, rfl, Lib.hid ⟨(fun h => by cases h), fun _ h2 => by rw [E.out, HBN.out] at h2; rcases (okAll_two.1 h2).2 with h3 | h3; exact absurd HRB.out (by omega); exact HO1.out h3⟩, Lib.hid ⟨_, MU.out⟩⟩
                  · have z3 : (x.op == 14) = false := by simp [h14]
                    have E := Lib.hid (ts_on (i := k) h11 h12 h14)
                    clear h11 h12 h14 htx
                    go_wp2_with fail
                    refine (meet_any (gh + 1) gh (n + 1) H (k + 1) h MU.out HLEN.out HBD.out hk1 hz0 (by omega)).mono ?_
                    rintro e w7 ⟨rfl, hm⟩
                    dsimp only
                    have M7 := Lib.hid hm
                    clear hm MU
                    go_wp2
                    go_meet
                    exact ⟨_, _, rfl, Lib.hid (by rw [E.out]; exact sw_one (t := k + 1) (by rw [HLEN.out]; exact hk1)), Lib.hid ⟨_, M7.out⟩⟩
            case rest =>
              clear x0 y0 y1 y2 MU
              obtain ⟨okb, H2, rfl, HSW, M6⟩ := hcut
              cases okb
              · have hF : Hid (R = false) := Lib.hid (by
                  rw [← HR.out]
                  refine lev_false (k := k + 1) ?_ (by rw [HTL.out]; omega)
                  rw [HSN.out, HST2.out, if_neg (HSW.out.no rfl)])
                obtain ⟨Ks2, M6⟩ := M6.out
                have BF := Lib.hid M6.bel
                clear M6
                go_wp2
                go_ret
                exact ⟨ret_bool (by rw [hF.out]), BF.out⟩
              · have HN : Hid (levTo T (k + 1) = some H2) := Lib.hid (by
                  obtain ⟨h1, h2⟩ := HSW.out.yes rfl
                  rw [HSN.out, HST2.out, if_pos h1, h2])
                have HRN : Hid (Reach T H2) := Lib.hid (by
                  have h1 := HN.out
                  rw [HSN.out] at h1
                  exact reach_step HRO.out HJ.out HX.out (HTS.out k x HX.out) (by rw [HLEN.out, HTL.out]) HRE.out h1)
                go_wp2
                go_roundw
                case rel => exact ⟨k + 1, H2, by omega, by go_num, HN, HRN, M6⟩
                case measure => simp [intOf]; omega
    · obtain rfl : k = n := by omega
      have hkk : ¬ (k : Int) < (k : Int) := by omega
      have hu := up_cell (M3.out.rowO 0 rfl) HLEN.out (show k < k + 1 by omega)
      obtain ⟨hb1, hb2⟩ := hbd_at HBD.out (k : Int)
      have hF : Hid (R = decide (hAt H (k : Int) ≤ 0)) := Lib.hid (by
        rw [← HR.out]
        unfold levF
        rw [HTL.out, HL.out])
      have hn1 : (k : Int) < (k : Int) + 1 := by omega
      have hk0 : (0 : Int) ≤ (k : Int) := by omega
      generalize hAt H (k : Int) = v at hu hF hb1 hb2
      go_wp2
      go_ret
      exact ⟨ret_bool (by rw [hF.out]; exact decide_eq_decide.2 (by omega)), M3.out.bel⟩
end Go.Proofs.YtiogcbckhaknmaaDoor.Vf
