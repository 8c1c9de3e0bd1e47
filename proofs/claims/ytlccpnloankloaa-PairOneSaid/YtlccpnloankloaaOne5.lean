/-
  The walk of the law PairOne. Conditions: the arguments read, within the form's own reach.
-/
import Derived.Test.YtlccpnloankloaaOneA0
import Derived.Test.YtlccpnloankloaaOneA1
import Derived.Test.YtlccpnloankloaaOneA2
import Derived.Test.YtlccpnloankloaaOneA3
import Derived.Test.YtlccpnloankloaaOneA4
namespace Go.Proofs.Ytlccpnloankloaa.Pair
open Go.RowKit Go.Proofs.Ytlccpnloankloaa.W Go.Proofs.Ytlccpnloankloaa.Ints Go.Proofs.Ytlccpnloankloaa.Keep

set_option maxRecDepth 100000 in
set_option maxHeartbeats 64000000 in
theorem One_any (A : Option Addr) (n c : Nat) (l : List RB) (pt : Int) (w : World) (hr : Rd w 3 A n (rbV l)) (hd : ∀ d ∈ l, d.ok) (hpt : I64 pt) :
    Calls Try.prog 9 #[.int .i64 pt, .slice A n c] w fun e w' => e = .returned (.bool true) ∧ Below w.heap.size w w' := by
  have HR := Lib.hid hr
  have HD := Lib.hid hd
  clear hr hd
  by_cases h400 : 400 < n
  · have hg : (400 : Int) < (n : Int) := by omega
    go_enter Try.func9, Try.ntmps9
    go_wp2
    go_ret
    exact ⟨rfl, Below.refl _ _⟩
  have hg : ¬ (400 : Int) < (n : Int) := by omega
  have hv := pick_lt (n := pt) (m := 4) (by omega)
  generalize hV : pickN pt 4 = V at hv
  have HV := Lib.hid hV
  have hv0 := hv.1
  have hv1 := hv.2
  clear hv hV
  obtain ⟨q1, q2⟩ := hpt
  go_enter Try.func9, Try.ntmps9
  go_wp2_with fail
  refine (picked_any pt 4 _ q1 q2 (by omega) (by omega)).mono ?_
  rintro e w1 ⟨rfl, rfl⟩
  rw [HV.out]
  obtain ⟨p, hp⟩ : ∃ p, 1 + V = p := ⟨_, rfl⟩
  have hp1 : 1 ≤ p := by omega
  have hp4 : p ≤ 4 := by omega
  have hw1 : IntKind.i64.wrap (1 + V) = p := by rw [← hp]; simp [IntKind.wrap, IntKind.bits, IntKind.signed]; omega
  go_upto_region 5 with fail
  have M1 : Hid (∃ A0 c0 A1 c1 Ks Os, Mem w1 (w1.alloc (.cells #[.int .i64 0, .bool false, .int .i64 0, .int .i64 0, .slice none 0 0, .int .i64 0, .int .i64 0, .int .i64 0, .bool false, .int .i64 0, .int .i64 0, .slice none 0 0, .int .i64 0, .int .i64 0] 46))
      (⟨w1.heap.size, 46, iniC 0 p (.slice A0 2 c0) (.slice A1 2 c1)⟩ :: Ks) Os ∧ (1 ≤ 0 → imgR A0 c0 0 ∈ Os) ∧ (2 ≤ 0 → imgR A1 c1 0 ∈ Os)) := by
    refine ⟨none, 0, none, 0, [], [], ?_, fun h => absurd h (by omega), fun h => absurd h (by omega)⟩
    rw [ini_zero]
    exact (Mem.start w1).alloc _ _
  generalize World.alloc _ _ = w2 at M1 ⊢
  obtain ⟨gs, hgs⟩ : ∃ gs, w1.heap.size = gs := ⟨_, rfl⟩
  rw [hgs] at M1 ⊢
  clear hgs
  go_wp2
  go_loopw [7] (fun v7 wr => ∃ k : Nat, k ≤ 2 ∧ v7 = .int .i64 k ∧ Hid (∃ A0 c0 A1 c1 Ks Os, Mem w1 wr (⟨gs, 46, iniC k p (.slice A0 2 c0) (.slice A1 2 c1)⟩ :: Ks) Os ∧ (1 ≤ k → imgR A0 c0 0 ∈ Os) ∧ (2 ≤ k → imgR A1 c1 0 ∈ Os))) (fun v _ => 2 - (intOf v).toNat)
  case atStart => exact ⟨0, by omega, rfl, M1⟩
  case round =>
    clear M1
    obtain ⟨k, hk, rfl, HM⟩ := hrel
    obtain ⟨A0, c0, A1, c1, Ks, Os, hm, hi0, hi1⟩ := HM.out
    have H0 := Lib.hid hm
    have HI := Lib.hid (And.intro hi0 hi1)
    clear HM hm hi0 hi1
    by_cases hlt : k < 2
    · have hk0 : (0 : Int) ≤ (k : Int) := by omega
      have hk2 : (k : Int) < 2 := by omega
      have hS := Lib.hid (startK (k := k) (by omega) hp1 (by omega) (sm 0))
      go_wp2_with fail
      refine (summed0_any _).mono ?_
      rintro e w3 ⟨rfl, r3, hb3, z3⟩
      have H1 := Lib.hid (H0.out.below hb3)
      have R3 := Lib.hid r3
      clear r3 hb3 H0
      go_wp2_with fail
      refine (Start_any k p _ 2 2 (sm 0) _ R3.out (by omega)).mono ?_
      intro e w4 hf4
      rw [hS.out] at hf4
      obtain ⟨A2, c2, rfl, ho, hb4⟩ := hf4
      have hs2 : (sm 0).length = 2 := rfl
      simp only [SD.val, SD.set, hs2] at ho ⊢
      have H2 := Lib.hid (((H1.out.made hb4 ho).alloc 25 #[.int .i64 k, .bool (decide (k = 0)), .int .i64 0, .int .i64 0, .slice A2 2 c2, .int .i64 0, .int .i64 p]).upK 1 rfl)
      clear ho hb4 H1 R3 hS
      have x0 := H2.out.cellK 1 rfl
      have fz := H2.out.frozenK 0 rfl
      obtain ⟨y0, y1, y2, y3, y4, y5, y6⟩ := ini_at (k := k) (by omega) p (.slice A0 2 c0) (.slice A1 2 c1)
      have s0 := (H2.out.cellK 0 rfl _).trans y0
      have s1 := (H2.out.cellK 0 rfl _).trans y1
      have s2 := (H2.out.cellK 0 rfl _).trans y2
      have s3 := (H2.out.cellK 0 rfl _).trans y3
      have s4 := (H2.out.cellK 0 rfl _).trans y4
      have s5 := (H2.out.cellK 0 rfl _).trans y5
      have s6 := (H2.out.cellK 0 rfl _).trans y6
      clear y0 y1 y2 y3 y4 y5 y6
      have hm := ((((((H2.out.set (i := k * 7) (.int .i64 k)).set (i := k * 7 + 1) (.bool (decide (k = 0)))).set (i := k * 7 + 2) (.int .i64 0)).set (i := k * 7 + 3) (.int .i64 0)).set (i := k * 7 + 4) (.slice A2 2 c2)).set (i := k * 7 + 5) (.int .i64 0)).set (i := k * 7 + 6) (.int .i64 p)
      rw [ini_set (by omega)] at hm
      have e0 : pu0 k (Value.slice A0 2 c0) (.slice A2 2 c2) = .slice (pu0 k A0 A2) 2 (pu0 k c0 c2) := by unfold pu0; split <;> rfl
      have e1 : pu1 k (Value.slice A1 2 c1) (.slice A2 2 c2) = .slice (pu1 k A1 A2) 2 (pu1 k c1 c2) := by unfold pu1; split <;> rfl
      rw [e0, e1] at hm
      have H3 := Lib.hid hm
      clear hm e0 e1
      go_upto_region 7 with fail
      generalize World.setCell (World.setCell (World.setCell (World.setCell (World.setCell (World.setCell (World.setCell _ _ _) _ _) _ _) _ _) _ _) _ _) _ _ = w5 at H3 ⊢
      clear H2 x0 fz s0 s1 s2 s3 s4 s5 s6
      go_wp2
      go_roundw
      case rel =>
        refine ⟨k + 1, by omega, by go_num, _, _, _, _, _, _, H3.out, fun _ => ?_, fun h2 => ?_⟩
        · by_cases h0 : k = 0
          · simp only [pu0, if_pos h0]
            exact List.mem_cons_self ..
          · simp only [pu0, if_neg h0]
            exact List.mem_cons_of_mem _ (HI.out.1 (by omega))
        · have h0 : ¬ k = 0 := by omega
          simp only [pu1, if_neg h0]
          exact List.mem_cons_self ..
      case measure => simp [intOf]; omega
    · have hk2 : k = 2 := by omega
      have hP : Hid (PWE w1 (wr.alloc (.cells #[.slice none 0 0] 48)) gs wr.heap.size p (ss0 true) (ss0 false) [] []) := by
        have h := ((((H0.out).alloc 48 #[.slice none 0 0]).upK 1 rfl)).nilO 33 4
        rw [hk2, ini_two] at h
        exact ⟨A0, c0, A1, c1, none, 0, _, _, h, HI.out.1 (by omega), HI.out.2 (by omega), fun _ h => (by cases h), fun _ h => (by cases h)⟩
      have hk3 : ¬ (k : Int) < 2 := by omega
      clear H0 HI hk2 hk hlt
      go_upto_region 13 with fail
      generalize World.alloc wr _ = w6 at hP ⊢
      obtain ⟨gt, hgt⟩ : ∃ gt, wr.heap.size = gt := ⟨_, rfl⟩
      rw [hgt] at hP ⊢
      clear hgt
      go_wp2
      obtain ⟨wq, hwq⟩ : ∃ wq : World, wq = wr := ⟨_, rfl⟩
      subst hwq
      go_loopw [13] (fun v13 wr => ∃ j : Nat, j ≤ n ∧ v13 = .int .i64 j ∧ ∃ x y L, Hid (Inv p j 0 x y (L.map BI.b)) ∧ L.length ≤ 2 * j ∧ Hid (PWE w1 wr gs gt p x y L [])) (fun v _ => n - (intOf v).toNat)
      case atStart => exact ⟨0, Nat.zero_le _, rfl, ss0 true, ss0 false, [], inv_start hp1, by simp, hP⟩
      case round =>
        clear hP
        obtain ⟨j, hj, rfl, x, y, L, HI, hL, HP⟩ := hrel
        by_cases hjn : j < n
        · obtain ⟨A0, c0, A1, c1, B, d, Ks, Os, h⟩ := HP.out
          obtain ⟨br, bo, r, rfl, hrk, hbr, r0, r1, r2⟩ := rb_at (HR.out.below h.mem.bel) hjn
          obtain ⟨⟨ra, rb⟩, ⟨rc, rd⟩, ⟨re, rf⟩⟩ := HD.out r (List.mem_of_getElem? hrk)
          have hj0 : (0 : Int) ≤ (j : Int) := by omega
          have hj1 : (j : Int) < (n : Int) := by omega
          have hkb := pick_lt (n := r.side) (m := 2) (by omega)
          generalize hK : pickN r.side 2 = kk at hkb
          obtain ⟨k, rfl⟩ := Int.eq_ofNat_of_zero_le hkb.1
          have HK := Lib.hid hK
          have hk1 : k ≤ 1 := by omega
          have hmb := pick_lt (n := r.what) (m := 5) (by omega)
          generalize hW : pickN r.what 5 = wh at hmb
          obtain ⟨m5, rfl⟩ := Int.eq_ofNat_of_zero_le hmb.1
          have HW := Lib.hid hW
          have hm5 : m5 < 5 := by omega
          have HRK := Lib.hid hrk
          clear hK hW hkb hmb hrk
          go_wp2_with fail
          refine (picked_any r.side 2 _ ra rb (by omega) (by omega)).mono ?_
          rintro e w7 ⟨rfl, rfl⟩
          rw [HK.out]
          have s0 : ∀ i, w7.cell? ⟨gs, i, none⟩ = #[.int .i64 0, .bool x.act, .int .i64 x.term, .int .i64 x.cyc, .slice A0 2 c0, .int .i64 x.sil, .int .i64 p, .int .i64 1, .bool y.act, .int .i64 y.term, .int .i64 y.cyc, .slice A1 2 c1, .int .i64 y.sil, .int .i64 p][i]? := h.mem.cellK 0 rfl
          have hP2 : Hid (PWE w1 (w7.alloc (.cells #[.int .i64 0, .bool x.act, .int .i64 x.term, .int .i64 x.cyc, .slice A0 2 c0, .int .i64 x.sil, .int .i64 p, .int .i64 1, .bool y.act, .int .i64 y.term, .int .i64 y.cyc, .slice A1 2 c1, .int .i64 y.sil, .int .i64 p] 46)) gs gt p x y L [⟨w7.heap.size, 46, sidesC x y p (.slice A0 2 c0) (.slice A1 2 c1)⟩]) :=
            ⟨A0, c0, A1, c1, B, d, _, Os, mem_sink (h.mem.alloc 46 (sidesC x y p (.slice A0 2 c0) (.slice A1 2 c1))), h.i0, h.i1, h.im, fun b hb => by rw [List.mem_singleton.1 hb]; exact List.mem_cons_self ..⟩
          clear h HP r0
          go_wp2_with fail
          refine (picked_any r.what 5 _ rc rd (by omega) (by omega)).mono ?_
          rintro e w8 ⟨rfl, rfl⟩
          rw [HW.out]
          have r2 := ((below_alloc (.cells #[.int .i64 0, .bool x.act, .int .i64 x.term, .int .i64 x.cyc, .slice A0 2 c0, .int .i64 x.sil, .int .i64 p, .int .i64 1, .bool y.act, .int .i64 y.term, .int .i64 y.cyc, .slice A1 2 c1, .int .i64 y.sil, .int .i64 p] 46)).cell hbr).trans r2
          generalize World.alloc w7 _ = w8 at hP2 r2 ⊢
          obtain ⟨ga, hga⟩ : ∃ ga, w7.heap.size = ga := ⟨_, rfl⟩
          rw [hga] at hP2 ⊢
          rw [hga] at hbr
          generalize hV0 : Value.slice A0 2 c0 = V0 at hP2 s0 ⊢
          generalize hV1 : Value.slice A1 2 c1 = V1 at hP2 s0 ⊢
          clear hga s0 r1 hV0 hV1
          go_upto_block 4 with fail
          go_cut [16, 17, 18, 19, 20, 21, 22] from 48 to 258 (fun _ _ _ _ _ _ _ wc => ∃ x' y' L', Hid (Inv p (j + 1) 0 x' y' (L'.map BI.b)) ∧ L'.length ≤ 2 * (j + 1) ∧ Hid (MonoQ x x' ∧ MonoQ y y') ∧ Hid (PWE w1 wc gs gt p x' y' L' [⟨ga, 46, sidesC x y p V0 V1⟩]))
          case first =>
            have hz1 : m5 = 0 ∨ m5 = 1 ∨ m5 = 2 ∨ m5 = 3 ∨ m5 = 4 := by omega
            have hfk : Fit p j (sel k x y) := by
              unfold sel
              split
              · exact HI.out.fx
              · exact HI.out.fy
            rename_i J K' hJ hM
            rcases hz1 with hm0 | rfl | rfl | rfl | hm4
            ·
              have b0 : ((m5 : Int) == 0) = true := beq_iff_eq.2 (by omega)
              have HM0 := Lib.hid hm0
              clear hm0 hm5 HW
              obtain ⟨A2, c2, A3, c3, B2, d2, Ks2, Os2, h2⟩ := hP2.out
              obtain ⟨e0, e1, e2, e3, e4, e5, e6⟩ := h2.seven hk1
              have k0 : (0 : Int) ≤ (k : Int) := by omega
              have k2 : (k : Int) < 2 := by omega
              rcases hact : (sel k x y).act with _ | _
              · rw [hact] at e1
                clear h2 e0 e2 e3 e4 e5 e6
                go_wp2
                go_roundw
                case rel => exact ⟨j + 1, by omega, by go_num, x, y, L, HI.out.up (by omega), by omega, hP2.out.drop⟩
                case measure => simp [intOf]; omega
              · exact arm0 n c l p w1 gs gt ga j k _ x y L br bo r w8 V0 V1 _ _ _ _ _ _ _ _ _ _ _ _ _ _ _ _ _ _ _ _ _ _ _ _ _ _ _ _ _ _ _ _ _ _ _ _ _ _ _ _ _ _ _ _ _ _ _ _ _ _ _ _ _ _ _ _ _ _ _ _ _ _ _ _ _ _ _ _ _ _ _ _ _ _ _ _ _ _ _ _ _ _ _ _ _ _ _ _ _ _ _ _ _ _ _ _ _ _ _ _ _ _ _ _ _ _ _ _ _ _ _ _ _ _ _ _ _ _ _ _ _ _ _ _ _ _ _ _ _ _ _ _ _ _ _ _ _ _ _ _ _ _ _ _ _ _ _ _ _ _ _ _ _ _ _ _ _ _ _ _ _ _ _ _ _ _ _ _ _ _ _ _ _ _ _ _ _ _ _ _ _ _ _ _ _ _ _ _ _ _ _ _ _ _ _ _ _ _ _ _ _ _ _ _ _ _ _ _ _ _ _ _ _ _ _ _ _ _ _ _ _ _ _ _ _ _ _ _ _ _ _ _ _ _ _ _ _ _ _ _ _ _ _ _ _ _ _ _ _ _ hg hp1 hp4 hj HI hL hjn HR re rf hj0 hj1 hk1 HRK r2 hbr hP2 hfk HM0.out hact _ _ J K' _ (by kernel_rfl) hJ hM
            ·
              exact arm1 n c l p w1 gs gt ga j k _ x y L br bo r w8 V0 V1 _ _ _ _ _ _ _ _ _ _ _ _ _ _ _ _ _ _ _ _ _ _ _ _ _ _ _ _ _ _ _ _ _ _ _ _ _ _ _ _ _ _ _ _ _ _ _ _ _ _ _ _ _ _ _ _ _ _ _ _ _ _ _ _ _ _ _ _ _ _ _ _ _ _ _ _ _ _ _ _ _ _ _ _ _ _ _ _ _ _ _ _ _ _ _ _ _ _ _ _ _ _ _ _ _ _ _ _ _ _ _ _ _ _ _ _ _ _ _ _ _ _ _ _ _ _ _ _ _ _ _ _ _ _ _ _ _ _ _ _ _ _ _ _ _ _ _ _ _ _ _ _ _ _ _ _ _ _ _ _ _ _ _ _ _ _ _ _ _ _ _ _ _ _ _ _ _ _ _ _ _ _ _ _ _ _ _ _ _ _ _ _ _ _ _ _ _ _ _ _ _ _ _ _ _ _ _ _ _ _ _ _ _ _ _ _ _ _ _ _ _ _ _ _ _ _ _ _ _ _ _ _ _ _ _ _ _ _ _ _ _ _ _ _ _ _ _ _ _ _ hg hp1 hp4 hj HI hL hjn HR re rf hj0 hj1 hk1 HRK r2 hbr hP2 hfk rfl _ _ J K' _ (by kernel_rfl) hJ hM
            ·
              exact arm2 n c l p w1 gs gt ga j k _ x y L br bo r w8 V0 V1 _ _ _ _ _ _ _ _ _ _ _ _ _ _ _ _ _ _ _ _ _ _ _ _ _ _ _ _ _ _ _ _ _ _ _ _ _ _ _ _ _ _ _ _ _ _ _ _ _ _ _ _ _ _ _ _ _ _ _ _ _ _ _ _ _ _ _ _ _ _ _ _ _ _ _ _ _ _ _ _ _ _ _ _ _ _ _ _ _ _ _ _ _ _ _ _ _ _ _ _ _ _ _ _ _ _ _ _ _ _ _ _ _ _ _ _ _ _ _ _ _ _ _ _ _ _ _ _ _ _ _ _ _ _ _ _ _ _ _ _ _ _ _ _ _ _ _ _ _ _ _ _ _ _ _ _ _ _ _ _ _ _ _ _ _ _ _ _ _ _ _ _ _ _ _ _ _ _ _ _ _ _ _ _ _ _ _ _ _ _ _ _ _ _ _ _ _ _ _ _ _ _ _ _ _ _ _ _ _ _ _ _ _ _ _ _ _ _ _ _ _ _ _ _ _ _ _ _ _ _ _ _ _ _ _ _ _ _ _ _ _ _ _ _ _ _ _ _ _ _ hg hp1 hp4 hj HI hL hjn HR re rf hj0 hj1 hk1 HRK r2 hbr hP2 hfk rfl _ _ J K' _ (by kernel_rfl) hJ hM
            ·
              exact arm3 n c l p w1 gs gt ga j k _ x y L br bo r w8 V0 V1 _ _ _ _ _ _ _ _ _ _ _ _ _ _ _ _ _ _ _ _ _ _ _ _ _ _ _ _ _ _ _ _ _ _ _ _ _ _ _ _ _ _ _ _ _ _ _ _ _ _ _ _ _ _ _ _ _ _ _ _ _ _ _ _ _ _ _ _ _ _ _ _ _ _ _ _ _ _ _ _ _ _ _ _ _ _ _ _ _ _ _ _ _ _ _ _ _ _ _ _ _ _ _ _ _ _ _ _ _ _ _ _ _ _ _ _ _ _ _ _ _ _ _ _ _ _ _ _ _ _ _ _ _ _ _ _ _ _ _ _ _ _ _ _ _ _ _ _ _ _ _ _ _ _ _ _ _ _ _ _ _ _ _ _ _ _ _ _ _ _ _ _ _ _ _ _ _ _ _ _ _ _ _ _ _ _ _ _ _ _ _ _ _ _ _ _ _ _ _ _ _ _ _ _ _ _ _ _ _ _ _ _ _ _ _ _ _ _ _ _ _ _ _ _ _ _ _ _ _ _ _ _ _ _ _ _ _ _ _ _ _ _ _ _ _ _ _ _ _ _ hg hp1 hp4 hj HI hL hjn HR re rf hj0 hj1 hk1 HRK r2 hbr hP2 hfk rfl _ _ J K' _ (by kernel_rfl) hJ hM
            ·
              exact arm4 n c l p w1 gs gt ga j k _ x y L br bo r w8 V0 V1 _ _ _ _ _ _ _ _ _ _ _ _ _ _ _ _ _ _ _ _ _ _ _ _ _ _ _ _ _ _ _ _ _ _ _ _ _ _ _ _ _ _ _ _ _ _ _ _ _ _ _ _ _ _ _ _ _ _ _ _ _ _ _ _ _ _ _ _ _ _ _ _ _ _ _ _ _ _ _ _ _ _ _ _ _ _ _ _ _ _ _ _ _ _ _ _ _ _ _ _ _ _ _ _ _ _ _ _ _ _ _ _ _ _ _ _ _ _ _ _ _ _ _ _ _ _ _ _ _ _ _ _ _ _ _ _ _ _ _ _ _ _ _ _ _ _ _ _ _ _ _ _ _ _ _ _ _ _ _ _ _ _ _ _ _ _ _ _ _ _ _ _ _ _ _ _ _ _ _ _ _ _ _ _ _ _ _ _ _ _ _ _ _ _ _ _ _ _ _ _ _ _ _ _ _ _ _ _ _ _ _ _ _ _ _ _ _ _ _ _ _ _ _ _ _ _ _ _ _ _ _ _ _ _ _ _ _ _ _ _ _ _ _ _ _ _ _ _ _ _ hg hp1 hp4 hj HI hL hjn HR re rf hj0 hj1 hk1 HRK r2 hbr hP2 hfk hm4 _ _ J K' _ (by kernel_rfl) hJ hM
          case rest => as_aux_lemma =>
            obtain ⟨x', y', L', HI', hL', HMo, HP'⟩ := hcut
            clear hP2 HI hL r2
            obtain ⟨A2, c2, A3, c3, B2, d2, Ks2, Os2, h2⟩ := HP'.out
            have hL2 := Lib.hid hL'
            clear hL'
            have hfx := HI'.out.fx
            have hfy := HI'.out.fy
            have hmem := h2.mem
            have hwas : ∀ q, q ≤ 1 → ∀ i, i < 7 → wc.cell? ⟨ga, q * 7 + i, none⟩ = (sideC q (sel q x y).act (sel q x y).term (sel q x y).cyc (sel q V0 V1) (sel q x y).sil p)[i]? := fun q hq i hi => by
              rw [(h2.mem.blk _ (List.mem_cons_of_mem _ (List.mem_cons_of_mem _ (h2.kx _ (List.mem_singleton.2 rfl))))).1.cell]
              exact sides_at hq x y p V0 V1 hi
            have HH := Lib.hid h2
            have HWAS := Lib.hid hwas
            have hga : ga < wc.heap.size := lt_of_cell ((hwas 0 (by omega) 0 (by omega)).trans rfl)
            have hgsl : gs < wc.heap.size := (h2.mem.ltK 0 rfl).2
            clear h2 hmem hwas HP'
            go_wp2
            go_loopw [23] (fun v23 wr => ∃ q : Nat, q ≤ 2 ∧ v23 = .int .i64 q ∧ Hid (Below wc.heap.size wc wr)) (fun v _ => 2 - (intOf v).toNat)
            case atStart => exact ⟨0, by omega, rfl, Below.refl _ _⟩
            case round =>
              obtain ⟨q, hq, rfl, HB⟩ := hrel
              by_cases hq2 : q < 2
              · obtain ⟨e0, e1, e2, e3, e4, e5, e6⟩ := HH.out.seven (k := q) (by omega)
                have o2 := HWAS.out q (by omega) 2 (by omega)
                have o3 := HWAS.out q (by omega) 3 (by omega)
                have hrd := HH.out.rdk q
                have hmo : MonoQ (sel q x y) (sel q x' y') := by
                  unfold sel
                  split
                  · exact HMo.out.1
                  · exact HMo.out.2
                have hft : (sel q x' y').term ≤ j + 1 ∧ (sel q x' y').cyc ≤ j + 1 := by
                  unfold sel
                  split
                  · exact ⟨hfx.t, hfx.c⟩
                  · exact ⟨hfy.t, hfy.c⟩
                generalize sel q A2 A3 = A at e4 hrd
                generalize sel q c2 c3 = c at e4
                obtain ⟨zt, hzt⟩ : ∃ zt, (sel q x' y').term = zt := ⟨_, rfl⟩
                obtain ⟨zc, hzc⟩ : ∃ zc, (sel q x' y').cyc = zc := ⟨_, rfl⟩
                obtain ⟨ot, hot⟩ : ∃ ot, (sel q x y).term = ot := ⟨_, rfl⟩
                obtain ⟨oc, hoc⟩ : ∃ oc, (sel q x y).cyc = oc := ⟨_, rfl⟩
                have o2 : wc.cell? ⟨ga, q * 7 + 2, none⟩ = some (.int .i64 ot) := by rw [← hot]; exact o2
                have o3 : wc.cell? ⟨ga, q * 7 + 3, none⟩ = some (.int .i64 oc) := by rw [← hoc]; exact o3
                obtain ⟨mo1, mo2⟩ := hmo
                rw [hzt] at e2 mo1 mo2 hft
                rw [hzc] at e3 mo2 hft hrd
                rw [hot] at mo1 mo2
                rw [hoc] at mo2
                have HRD := Lib.hid hrd
                obtain ⟨tz, htz⟩ : ∃ tz : Int, (zt : Int) = tz := ⟨_, rfl⟩
                obtain ⟨tw, htw⟩ : ∃ tw : Int, (ot : Int) = tw := ⟨_, rfl⟩
                obtain ⟨cw, hcw⟩ : ∃ cw : Int, (oc : Int) = cw := ⟨_, rfl⟩
                rw [htz] at e2
                rw [htw] at o2
                rw [hcw] at o3
                have hcell : ∀ w', Below wc.heap.size wc w' → w'.cell? ⟨gs, q * 7 + 2, none⟩ = some (.int .i64 tz) ∧ w'.cell? ⟨gs, q * 7 + 3, none⟩ = some (.int .i64 zc) ∧ w'.cell? ⟨gs, q * 7 + 4, none⟩ = some (.slice A 2 c) ∧ w'.cell? ⟨ga, q * 7 + 2, none⟩ = some (.int .i64 tw) ∧ w'.cell? ⟨ga, q * 7 + 3, none⟩ = some (.int .i64 cw) :=
                  fun w' h => ⟨(h.cell hgsl).trans e2, (h.cell hgsl).trans e3, (h.cell hgsl).trans e4, (h.cell hga).trans o2, (h.cell hga).trans o3⟩
                have HC := Lib.hid hcell
                have hq0 := HC.out (World.drew wr) (below_drewN HB.out 1)
                have k0 : (0 : Int) ≤ (q : Int) := by omega
                have k2 : (q : Int) < 2 := by omega
                have g1 : decide (tz < tw) = false := decide_eq_false (by omega)
                obtain ⟨bq, hbq⟩ : ∃ bq : Bool, (tz == tw) = bq := ⟨_, rfl⟩
                have hbd : decide (tz = tw) = bq := by rw [← hbq]; rfl
                have hpr : bq = true → decide ((zc : Int) < cw) = false := fun h => by
                  have : tz = tw := beq_iff_eq.1 (hbq.trans h)
                  have := mo2 (by omega)
                  exact decide_eq_false (by omega)
                have hzc : zc ≤ 1000 := by omega
                clear hcell e0 e1 e2 e3 e4 e5 e6 o2 o3 hrd mo1 mo2 hft hzt hot hoc htz htw hcw
                go_upto_region 51 with fail
                refine wp_region_noPanic ?_
                refine wp_region_held_drew (S := fun w' => w'.cell? ⟨gs, q * 7 + 2, none⟩ = some (.int .i64 tz) ∧ w'.cell? ⟨gs, q * 7 + 3, none⟩ = some (.int .i64 zc) ∧ w'.cell? ⟨gs, q * 7 + 4, none⟩ = some (.slice A 2 c) ∧ w'.cell? ⟨ga, q * 7 + 2, none⟩ = some (.int .i64 tw) ∧ w'.cell? ⟨ga, q * 7 + 3, none⟩ = some (.int .i64 cw)) (by kernel_rfl) ?_ (fun hHeld => ?_)
                · exact hq0
                refine wpAnyH_take (i := 0) (v := ?_) rfl (by kernel_rfl) (by kernel_rfl) (by kernel_rfl) (fun _ _ _ h => h) (Or.inl ⟨by rfl, ?_⟩) (by assumption) ?_
                rotate_left
                · intro w' hSw
                  (try dsimp only at hSw)
                  go_simp
                  try with_reducible rfl
                try simp only [Act.put, List.getElem_toArray, List.getElem_cons_zero, List.setIfInBounds_toArray, List.set_cons_zero, List.set_cons_succ]
                refine wpAnyH_take (i := 1) (v := ?_) rfl (by kernel_rfl) (by kernel_rfl) (by kernel_rfl) (fun _ _ _ h => h) (Or.inl ⟨by rfl, ?_⟩) (by assumption) ?_
                rotate_left
                · intro w' hSw
                  (try dsimp only at hSw)
                  go_simp
                  try with_reducible rfl
                try simp only [Act.put, List.getElem_toArray, List.getElem_cons_zero, List.getElem_cons_succ, List.setIfInBounds_toArray, List.set_cons_zero, List.set_cons_succ]
                refine wpAnyH_take (i := 2) (v := ?_) rfl (by kernel_rfl) (by kernel_rfl) (by kernel_rfl) (fun _ _ _ h => h) (Or.inl ⟨by rfl, ?_⟩) (by assumption) ?_
                rotate_left
                · intro w' hSw
                  (try dsimp only at hSw)
                  go_simp
                  try with_reducible rfl
                try simp only [Act.put, List.getElem_toArray, List.getElem_cons_zero, List.getElem_cons_succ, List.setIfInBounds_toArray, List.set_cons_zero, List.set_cons_succ]
                refine wpAnyH_take (i := 3) (v := ?_) rfl (by kernel_rfl) (by kernel_rfl) (by kernel_rfl) (fun _ _ _ h => h) (Or.inl ⟨by rfl, ?_⟩) (by assumption) ?_
                rotate_left
                · intro w' hSw
                  (try dsimp only at hSw)
                  go_simp
                  try with_reducible rfl
                try simp only [Act.put, List.getElem_toArray, List.getElem_cons_zero, List.getElem_cons_succ, List.setIfInBounds_toArray, List.set_cons_zero, List.set_cons_succ]
                refine wpAnyH_take (i := 4) (v := ?_) rfl (by kernel_rfl) (by kernel_rfl) (by kernel_rfl) (fun _ _ _ h => h) (Or.inl ⟨by rfl, ?_⟩) (by assumption) ?_
                rotate_left
                · intro w' hSw
                  (try dsimp only at hSw)
                  go_simp
                  try with_reducible rfl
                try simp only [Act.put, List.getElem_toArray, List.getElem_cons_zero, List.getElem_cons_succ, List.setIfInBounds_toArray, List.set_cons_zero, List.set_cons_succ]
                refine wpAnyH_take (i := 5) (v := ?_) rfl (by kernel_rfl) (by kernel_rfl) (by kernel_rfl) (fun _ _ _ h => h) (Or.inl ⟨by rfl, ?_⟩) (by assumption) ?_
                rotate_left
                · intro w' hSw
                  (try dsimp only at hSw)
                  go_simp
                  try with_reducible rfl
                try simp only [Act.put, List.getElem_toArray, List.getElem_cons_zero, List.getElem_cons_succ, List.setIfInBounds_toArray, List.set_cons_zero, List.set_cons_succ]
                refine wpAnyH_take (i := 6) (v := ?_) rfl (by kernel_rfl) (by kernel_rfl) (by kernel_rfl) (fun _ _ _ h => h) (Or.inl ⟨by rfl, ?_⟩) (by assumption) ?_
                rotate_left
                · intro w' hSw
                  (try dsimp only at hSw)
                  go_simp
                  try with_reducible rfl
                try simp only [Act.put, List.getElem_toArray, List.getElem_cons_zero, List.getElem_cons_succ, List.setIfInBounds_toArray, List.set_cons_zero, List.set_cons_succ]
                refine wpAnyH_take (i := 7) (v := ?_) rfl (by kernel_rfl) (by kernel_rfl) (by kernel_rfl) (fun _ _ _ h => h) (Or.inl ⟨by rfl, ?_⟩) (by assumption) ?_
                rotate_left
                · intro w' hSw
                  (try dsimp only at hSw)
                  go_simp
                  try with_reducible rfl
                try simp only [Act.put, List.getElem_toArray, List.getElem_cons_zero, List.getElem_cons_succ, List.setIfInBounds_toArray, List.set_cons_zero, List.set_cons_succ]
                refine wpAnyH_ready (rs := [8]) (by kernel_rfl) (by simp) ?_
                refine AllReadyH.cons rfl (fun K hK => ?_) AllReadyH.nil
                have HKK := Lib.hid hK
                clear hK
                go_simp
                go_at_call 29
                refine (summed_any zc _ hzc).mono ?_
                rintro e w9 ⟨rfl, r9, hb9, z9⟩
                have HB9 := Lib.hid (HB.out.trans ((pre_drew hb9).mono HB.out.size))
                have R9 := Lib.hid r9
                have y1 := HC.out w9 HB9.out
                refine HKK.out.out _ _ y1 (fun hHeld => ?_)
                clear HKK K
                try simp only [Act.put, List.getElem_toArray, List.getElem_cons_zero, List.getElem_cons_succ, List.setIfInBounds_toArray, List.set_cons_zero, List.set_cons_succ]
                refine wpAnyH_ready (rs := [9]) (by kernel_rfl) (by simp) ?_
                refine AllReadyH.cons rfl (fun K hK => ?_) AllReadyH.nil
                have HKK := Lib.hid hK
                clear hK
                go_simp
                go_at_call 32
                refine (equal_any A _ 2 2 c 2 (sm zc) (sm zc) _ (HRD.out.below HB9.out) R9.out (by unfold maxLen; omega)).mono ?_
                rintro e w10 ⟨rfl, nq, rfl⟩
                rw [decide_eq_true rfl]
                have y2 := HC.out (World.drewN w9 nq) (below_drewN HB9.out nq)
                have HB10 : Hid (Below wc.heap.size wc (w9.drewN nq)) := below_drewN HB9.out nq
                refine HKK.out.out _ _ y2 (fun hHeld => ?_)
                clear HKK K
                try simp only [Act.put, List.getElem_toArray, List.getElem_cons_zero, List.getElem_cons_succ, List.setIfInBounds_toArray, List.set_cons_zero, List.set_cons_succ]
                refine wpAnyH_take (i := 10) (v := ?_) rfl (by kernel_rfl) (by kernel_rfl) (by kernel_rfl) (fun _ _ _ h => h) (Or.inl ⟨by rfl, ?_⟩) (by assumption) ?_
                rotate_left
                · intro w' hSw
                  (try dsimp only at hSw)
                  go_simp
                  try with_reducible rfl
                try simp only [Act.put, List.getElem_toArray, List.getElem_cons_zero, List.getElem_cons_succ, List.setIfInBounds_toArray, List.set_cons_zero, List.set_cons_succ]
                refine wpAnyH_take (i := 11) (v := ?_) rfl (by kernel_rfl) (by kernel_rfl) (by kernel_rfl) (fun _ _ _ h => h) (Or.inl ⟨by rfl, ?_⟩) (by assumption) ?_
                rotate_left
                · intro w' hSw
                  (try dsimp only at hSw)
                  go_simp
                  try with_reducible rfl
                try simp only [Act.put, List.getElem_toArray, List.getElem_cons_zero, List.getElem_cons_succ, List.setIfInBounds_toArray, List.set_cons_zero, List.set_cons_succ]
                refine wpAnyH_take (i := 12) (v := ?_) rfl (by kernel_rfl) (by kernel_rfl) (by kernel_rfl) (fun _ _ _ h => h) (Or.inl ⟨by rfl, ?_⟩) (by assumption) ?_
                rotate_left
                · intro w' hSw
                  (try dsimp only at hSw)
                  go_simp
                  try with_reducible rfl
                try simp only [Act.put, List.getElem_toArray, List.getElem_cons_zero, List.getElem_cons_succ, List.setIfInBounds_toArray, List.set_cons_zero, List.set_cons_succ]
                refine wpAnyH_take (i := 13) (v := ?_) rfl (by kernel_rfl) (by kernel_rfl) (by kernel_rfl) (fun _ _ _ h => h) (Or.inl ⟨by rfl, ?_⟩) (by assumption) ?_
                rotate_left
                · intro w' hSw
                  (try dsimp only at hSw)
                  go_simp
                  try with_reducible rfl
                try simp only [Act.put, List.getElem_toArray, List.getElem_cons_zero, List.getElem_cons_succ, List.setIfInBounds_toArray, List.set_cons_zero, List.set_cons_succ]
                refine wpAnyH_take (i := 14) (v := ?_) rfl (by kernel_rfl) (by kernel_rfl) (by kernel_rfl) (fun _ _ _ h => h) (Or.inl ⟨by rfl, ?_⟩) (by assumption) ?_
                rotate_left
                · intro w' hSw
                  (try dsimp only at hSw)
                  go_simp
                  try with_reducible rfl
                try simp only [Act.put, List.getElem_toArray, List.getElem_cons_zero, List.getElem_cons_succ, List.setIfInBounds_toArray, List.set_cons_zero, List.set_cons_succ]
                refine wpAnyH_take (i := 15) (v := ?_) rfl (by kernel_rfl) (by kernel_rfl) (by kernel_rfl) (fun _ _ _ h => h) (Or.inl ⟨by rfl, ?_⟩) (by assumption) ?_
                rotate_left
                · intro w' hSw
                  (try dsimp only at hSw)
                  go_simp
                  try with_reducible rfl
                try simp only [Act.put, List.getElem_toArray, List.getElem_cons_zero, List.getElem_cons_succ, List.setIfInBounds_toArray, List.set_cons_zero, List.set_cons_succ]
                refine wpAnyH_take (i := 16) (v := ?_) rfl (by kernel_rfl) (by kernel_rfl) (by kernel_rfl) (fun _ _ _ h => h) (Or.inl ⟨by rfl, ?_⟩) (by assumption) ?_
                rotate_left
                · intro w' hSw
                  (try dsimp only at hSw)
                  go_simp
                  try with_reducible rfl
                try simp only [Act.put, List.getElem_toArray, List.getElem_cons_zero, List.getElem_cons_succ, List.setIfInBounds_toArray, List.set_cons_zero, List.set_cons_succ]
                refine wpAnyH_take (i := 17) (v := ?_) rfl (by kernel_rfl) (by kernel_rfl) (by kernel_rfl) (fun _ _ _ h => h) (Or.inl ⟨by rfl, ?_⟩) (by assumption) ?_
                rotate_left
                · intro w' hSw
                  (try dsimp only at hSw)
                  go_simp
                  try with_reducible rfl
                try simp only [Act.put, List.getElem_toArray, List.getElem_cons_zero, List.getElem_cons_succ, List.setIfInBounds_toArray, List.set_cons_zero, List.set_cons_succ]
                refine wpAnyH_take (i := 18) (v := ?_) rfl (by kernel_rfl) (by kernel_rfl) (by kernel_rfl) (fun _ _ _ h => h) (Or.inl ⟨by rfl, ?_⟩) (by assumption) ?_
                rotate_left
                · intro w' hSw
                  (try dsimp only at hSw)
                  go_simp
                  try with_reducible rfl
                try simp only [Act.put, List.getElem_toArray, List.getElem_cons_zero, List.getElem_cons_succ, List.setIfInBounds_toArray, List.set_cons_zero, List.set_cons_succ]
                refine wpAnyH_take (i := 19) (v := ?_) rfl (by kernel_rfl) (by kernel_rfl) (by kernel_rfl) (fun _ _ _ h => h) (Or.inl ⟨by rfl, ?_⟩) (by assumption) ?_
                rotate_left
                · intro w' hSw
                  (try dsimp only at hSw)
                  go_simp
                  try with_reducible rfl
                try simp only [Act.put, List.getElem_toArray, List.getElem_cons_zero, List.getElem_cons_succ, List.setIfInBounds_toArray, List.set_cons_zero, List.set_cons_succ]
                refine wpAnyH_take (i := 20) (v := ?_) rfl (by kernel_rfl) (by kernel_rfl) (by kernel_rfl) (fun _ _ _ h => h) (Or.inl ⟨by rfl, ?_⟩) (by assumption) ?_
                rotate_left
                · intro w' hSw
                  (try dsimp only at hSw)
                  go_simp
                  try with_reducible rfl
                try simp only [Act.put, List.getElem_toArray, List.getElem_cons_zero, List.getElem_cons_succ, List.setIfInBounds_toArray, List.set_cons_zero, List.set_cons_succ]
                refine wpAnyH_take (i := 21) (v := ?_) rfl (by kernel_rfl) (by kernel_rfl) (by kernel_rfl) (fun _ _ _ h => h) (Or.inl ⟨by rfl, ?_⟩) (by assumption) ?_
                rotate_left
                · intro w' hSw
                  (try dsimp only at hSw)
                  go_simp
                  try with_reducible rfl
                try simp only [Act.put, List.getElem_toArray, List.getElem_cons_zero, List.getElem_cons_succ, List.setIfInBounds_toArray, List.set_cons_zero, List.set_cons_succ]
                refine wpAnyH_take (i := 22) (v := ?_) rfl (by kernel_rfl) (by kernel_rfl) (by kernel_rfl) (fun _ _ _ h => h) (Or.inl ⟨by rfl, ?_⟩) (by assumption) ?_
                rotate_left
                · intro w' hSw
                  (try dsimp only at hSw)
                  go_simp
                  try with_reducible rfl
                try simp only [Act.put, List.getElem_toArray, List.getElem_cons_zero, List.getElem_cons_succ, List.setIfInBounds_toArray, List.set_cons_zero, List.set_cons_succ]
                refine wpAnyH_take (i := 23) (v := ?_) rfl (by kernel_rfl) (by kernel_rfl) (by kernel_rfl) (fun _ _ _ h => h) (Or.inl ⟨by rfl, ?_⟩) (by assumption) ?_
                rotate_left
                · intro w' hSw
                  (try dsimp only at hSw)
                  go_simp
                  try with_reducible rfl
                try simp only [Act.put, List.getElem_toArray, List.getElem_cons_zero, List.getElem_cons_succ, List.setIfInBounds_toArray, List.set_cons_zero, List.set_cons_succ]
                refine wpAnyH_take (i := 24) (v := ?_) rfl (by kernel_rfl) (by kernel_rfl) (by kernel_rfl) (fun _ _ _ h => h) (Or.inl ⟨by rfl, ?_⟩) (by assumption) ?_
                rotate_left
                · intro w' hSw
                  (try dsimp only at hSw)
                  go_simp
                  try with_reducible rfl
                try simp only [Act.put, List.getElem_toArray, List.getElem_cons_zero, List.getElem_cons_succ, List.setIfInBounds_toArray, List.set_cons_zero, List.set_cons_succ]
                refine wpAnyH_take (i := 25) (v := ?_) rfl (by kernel_rfl) (by kernel_rfl) (by kernel_rfl) (fun _ _ _ h => h) (Or.inl ⟨by rfl, ?_⟩) (by assumption) ?_
                rotate_left
                · intro w' hSw
                  (try dsimp only at hSw)
                  go_simp
                  try with_reducible rfl
                try simp only [Act.put, List.getElem_toArray, List.getElem_cons_zero, List.getElem_cons_succ, List.setIfInBounds_toArray, List.set_cons_zero, List.set_cons_succ]
                refine wpAnyH_take (i := 26) (v := ?_) rfl (by kernel_rfl) (by kernel_rfl) (by kernel_rfl) (fun _ _ _ h => h) (Or.inl ⟨by rfl, ?_⟩) (by assumption) ?_
                rotate_left
                · intro w' hSw
                  (try dsimp only at hSw)
                  go_simp
                  try with_reducible rfl
                try simp only [Act.put, List.getElem_toArray, List.getElem_cons_zero, List.getElem_cons_succ, List.setIfInBounds_toArray, List.set_cons_zero, List.set_cons_succ]
                refine wpAnyH_take (i := 27) (v := ?_) rfl (by kernel_rfl) (by kernel_rfl) (by kernel_rfl) (fun _ _ _ h => h) (Or.inl ⟨by rfl, ?_⟩) (by assumption) ?_
                rotate_left
                · intro w' hSw
                  (try dsimp only at hSw)
                  go_simp
                  try with_reducible rfl
                try simp only [Act.put, List.getElem_toArray, List.getElem_cons_zero, List.getElem_cons_succ, List.setIfInBounds_toArray, List.set_cons_zero, List.set_cons_succ]
                refine wpAnyH_take (i := 28) (v := ?_) rfl (by kernel_rfl) (by kernel_rfl) (by kernel_rfl) (fun _ _ _ h => h) (Or.inl ⟨by rfl, ?_⟩) (by assumption) ?_
                rotate_left
                · intro w' hSw
                  (try dsimp only at hSw)
                  go_simp
                  try with_reducible rfl
                try simp only [Act.put, List.getElem_toArray, List.getElem_cons_zero, List.getElem_cons_succ, List.setIfInBounds_toArray, List.set_cons_zero, List.set_cons_succ]
                refine wpAnyH_take (i := 29) (v := ?_) rfl (by kernel_rfl) (by kernel_rfl) (by kernel_rfl) (fun _ _ _ h => h) (Or.inl ⟨by rfl, ?_⟩) (by assumption) ?_
                rotate_left
                · intro w' hSw
                  (try dsimp only at hSw)
                  go_simp
                  try with_reducible rfl
                try simp only [Act.put, List.getElem_toArray, List.getElem_cons_zero, List.getElem_cons_succ, List.setIfInBounds_toArray, List.set_cons_zero, List.set_cons_succ]
                refine wpAnyH_take (i := 30) (v := ?_) rfl (by kernel_rfl) (by kernel_rfl) (by kernel_rfl) (fun _ _ _ h => h) (Or.inl ⟨by rfl, ?_⟩) (by assumption) ?_
                rotate_left
                · intro w' hSw
                  (try dsimp only at hSw)
                  go_simp
                  try with_reducible rfl
                try simp only [Act.put, List.getElem_toArray, List.getElem_cons_zero, List.getElem_cons_succ, List.setIfInBounds_toArray, List.set_cons_zero, List.set_cons_succ]
                refine wpAnyH_take (i := 31) (v := ?_) rfl (by kernel_rfl) (by kernel_rfl) (by kernel_rfl) (fun _ _ _ h => h) (Or.inl ⟨by rfl, ?_⟩) (by assumption) ?_
                rotate_left
                · intro w' hSw
                  (try dsimp only at hSw)
                  go_simp
                  try with_reducible rfl
                try simp only [Act.put, List.getElem_toArray, List.getElem_cons_zero, List.getElem_cons_succ, List.setIfInBounds_toArray, List.set_cons_zero, List.set_cons_succ]
                refine wpAnyH_take (i := 32) (v := ?_) rfl (by kernel_rfl) (by kernel_rfl) (by kernel_rfl) (fun _ _ _ h => h) (Or.inl ⟨by rfl, ?_⟩) (by assumption) ?_
                rotate_left
                · intro w' hSw
                  (try dsimp only at hSw)
                  go_simp
                  try with_reducible rfl
                try simp only [Act.put, List.getElem_toArray, List.getElem_cons_zero, List.getElem_cons_succ, List.setIfInBounds_toArray, List.set_cons_zero, List.set_cons_succ]
                cases bq
                · refine wpAnyH_take (i := 33) (v := undef) rfl (by kernel_rfl) (by kernel_rfl) (by kernel_rfl) (fun _ _ _ h => h) (Or.inr ⟨by rfl, rfl⟩) (by assumption) ?_
                  try simp only [Act.put, List.getElem_toArray, List.getElem_cons_zero, List.getElem_cons_succ, List.setIfInBounds_toArray, List.set_cons_zero, List.set_cons_succ]
                  refine wpAnyH_take (i := 34) (v := undef) rfl (by kernel_rfl) (by kernel_rfl) (by kernel_rfl) (fun _ _ _ h => h) (Or.inr ⟨by rfl, rfl⟩) (by assumption) ?_
                  try simp only [Act.put, List.getElem_toArray, List.getElem_cons_zero, List.getElem_cons_succ, List.setIfInBounds_toArray, List.set_cons_zero, List.set_cons_succ]
                  refine wpAnyH_take (i := 35) (v := undef) rfl (by kernel_rfl) (by kernel_rfl) (by kernel_rfl) (fun _ _ _ h => h) (Or.inr ⟨by rfl, rfl⟩) (by assumption) ?_
                  try simp only [Act.put, List.getElem_toArray, List.getElem_cons_zero, List.getElem_cons_succ, List.setIfInBounds_toArray, List.set_cons_zero, List.set_cons_succ]
                  refine wpAnyH_take (i := 36) (v := undef) rfl (by kernel_rfl) (by kernel_rfl) (by kernel_rfl) (fun _ _ _ h => h) (Or.inr ⟨by rfl, rfl⟩) (by assumption) ?_
                  try simp only [Act.put, List.getElem_toArray, List.getElem_cons_zero, List.getElem_cons_succ, List.setIfInBounds_toArray, List.set_cons_zero, List.set_cons_succ]
                  refine wpAnyH_take (i := 37) (v := undef) rfl (by kernel_rfl) (by kernel_rfl) (by kernel_rfl) (fun _ _ _ h => h) (Or.inr ⟨by rfl, rfl⟩) (by assumption) ?_
                  try simp only [Act.put, List.getElem_toArray, List.getElem_cons_zero, List.getElem_cons_succ, List.setIfInBounds_toArray, List.set_cons_zero, List.set_cons_succ]
                  refine wpAnyH_take (i := 38) (v := undef) rfl (by kernel_rfl) (by kernel_rfl) (by kernel_rfl) (fun _ _ _ h => h) (Or.inr ⟨by rfl, rfl⟩) (by assumption) ?_
                  try simp only [Act.put, List.getElem_toArray, List.getElem_cons_zero, List.getElem_cons_succ, List.setIfInBounds_toArray, List.set_cons_zero, List.set_cons_succ]
                  refine wpAnyH_take (i := 39) (v := undef) rfl (by kernel_rfl) (by kernel_rfl) (by kernel_rfl) (fun _ _ _ h => h) (Or.inr ⟨by rfl, rfl⟩) (by assumption) ?_
                  try simp only [Act.put, List.getElem_toArray, List.getElem_cons_zero, List.getElem_cons_succ, List.setIfInBounds_toArray, List.set_cons_zero, List.set_cons_succ]
                  refine wpAnyH_take (i := 40) (v := undef) rfl (by kernel_rfl) (by kernel_rfl) (by kernel_rfl) (fun _ _ _ h => h) (Or.inr ⟨by rfl, rfl⟩) (by assumption) ?_
                  try simp only [Act.put, List.getElem_toArray, List.getElem_cons_zero, List.getElem_cons_succ, List.setIfInBounds_toArray, List.set_cons_zero, List.set_cons_succ]
                  refine wpAnyH_take (i := 41) (v := undef) rfl (by kernel_rfl) (by kernel_rfl) (by kernel_rfl) (fun _ _ _ h => h) (Or.inr ⟨by rfl, rfl⟩) (by assumption) ?_
                  try simp only [Act.put, List.getElem_toArray, List.getElem_cons_zero, List.getElem_cons_succ, List.setIfInBounds_toArray, List.set_cons_zero, List.set_cons_succ]
                  refine wpAnyH_take (i := 42) (v := ?_) rfl (by kernel_rfl) (by kernel_rfl) (by kernel_rfl) (fun _ _ _ h => h) (Or.inl ⟨by rfl, ?_⟩) (by assumption) ?_
                  rotate_left
                  · intro w' hSw
                    (try dsimp only at hSw)
                    go_simp
                    try with_reducible rfl
                  try simp only [Act.put, List.getElem_toArray, List.getElem_cons_zero, List.getElem_cons_succ, List.setIfInBounds_toArray, List.set_cons_zero, List.set_cons_succ]
                  refine wpAnyH_take (i := 43) (v := ?_) rfl (by kernel_rfl) (by kernel_rfl) (by kernel_rfl) (fun _ _ _ h => h) (Or.inl ⟨by rfl, ?_⟩) (by assumption) ?_
                  rotate_left
                  · intro w' hSw
                    (try dsimp only at hSw)
                    go_simp
                    try with_reducible rfl
                  try simp only [Act.put, List.getElem_toArray, List.getElem_cons_zero, List.getElem_cons_succ, List.setIfInBounds_toArray, List.set_cons_zero, List.set_cons_succ]
                  refine wpAnyH_done (by kernel_rfl) ?_ _
                  refine NoPanic.normal ?_
                  clear y1 y2 R9 HB9 hq0 HC HRD
                  go_wp2
                  go_roundw
                  case rel => exact ⟨q + 1, by omega, by go_num, HB10⟩
                  case measure => simp [intOf]; omega
                · have g3 := hpr rfl
                  refine wpAnyH_take (i := 33) (v := ?_) rfl (by kernel_rfl) (by kernel_rfl) (by kernel_rfl) (fun _ _ _ h => h) (Or.inl ⟨by rfl, ?_⟩) (by assumption) ?_
                  rotate_left
                  · intro w' hSw
                    (try dsimp only at hSw)
                    go_simp
                    try with_reducible rfl
                  try simp only [Act.put, List.getElem_toArray, List.getElem_cons_zero, List.getElem_cons_succ, List.setIfInBounds_toArray, List.set_cons_zero, List.set_cons_succ]
                  refine wpAnyH_take (i := 34) (v := ?_) rfl (by kernel_rfl) (by kernel_rfl) (by kernel_rfl) (fun _ _ _ h => h) (Or.inl ⟨by rfl, ?_⟩) (by assumption) ?_
                  rotate_left
                  · intro w' hSw
                    (try dsimp only at hSw)
                    go_simp
                    try with_reducible rfl
                  try simp only [Act.put, List.getElem_toArray, List.getElem_cons_zero, List.getElem_cons_succ, List.setIfInBounds_toArray, List.set_cons_zero, List.set_cons_succ]
                  refine wpAnyH_take (i := 35) (v := ?_) rfl (by kernel_rfl) (by kernel_rfl) (by kernel_rfl) (fun _ _ _ h => h) (Or.inl ⟨by rfl, ?_⟩) (by assumption) ?_
                  rotate_left
                  · intro w' hSw
                    (try dsimp only at hSw)
                    go_simp
                    try with_reducible rfl
                  try simp only [Act.put, List.getElem_toArray, List.getElem_cons_zero, List.getElem_cons_succ, List.setIfInBounds_toArray, List.set_cons_zero, List.set_cons_succ]
                  refine wpAnyH_take (i := 36) (v := ?_) rfl (by kernel_rfl) (by kernel_rfl) (by kernel_rfl) (fun _ _ _ h => h) (Or.inl ⟨by rfl, ?_⟩) (by assumption) ?_
                  rotate_left
                  · intro w' hSw
                    (try dsimp only at hSw)
                    go_simp
                    try with_reducible rfl
                  try simp only [Act.put, List.getElem_toArray, List.getElem_cons_zero, List.getElem_cons_succ, List.setIfInBounds_toArray, List.set_cons_zero, List.set_cons_succ]
                  refine wpAnyH_take (i := 37) (v := ?_) rfl (by kernel_rfl) (by kernel_rfl) (by kernel_rfl) (fun _ _ _ h => h) (Or.inl ⟨by rfl, ?_⟩) (by assumption) ?_
                  rotate_left
                  · intro w' hSw
                    (try dsimp only at hSw)
                    go_simp
                    try with_reducible rfl
                  try simp only [Act.put, List.getElem_toArray, List.getElem_cons_zero, List.getElem_cons_succ, List.setIfInBounds_toArray, List.set_cons_zero, List.set_cons_succ]
                  refine wpAnyH_take (i := 38) (v := ?_) rfl (by kernel_rfl) (by kernel_rfl) (by kernel_rfl) (fun _ _ _ h => h) (Or.inl ⟨by rfl, ?_⟩) (by assumption) ?_
                  rotate_left
                  · intro w' hSw
                    (try dsimp only at hSw)
                    go_simp
                    try with_reducible rfl
                  try simp only [Act.put, List.getElem_toArray, List.getElem_cons_zero, List.getElem_cons_succ, List.setIfInBounds_toArray, List.set_cons_zero, List.set_cons_succ]
                  refine wpAnyH_take (i := 39) (v := ?_) rfl (by kernel_rfl) (by kernel_rfl) (by kernel_rfl) (fun _ _ _ h => h) (Or.inl ⟨by rfl, ?_⟩) (by assumption) ?_
                  rotate_left
                  · intro w' hSw
                    (try dsimp only at hSw)
                    go_simp
                    try with_reducible rfl
                  try simp only [Act.put, List.getElem_toArray, List.getElem_cons_zero, List.getElem_cons_succ, List.setIfInBounds_toArray, List.set_cons_zero, List.set_cons_succ]
                  refine wpAnyH_take (i := 40) (v := ?_) rfl (by kernel_rfl) (by kernel_rfl) (by kernel_rfl) (fun _ _ _ h => h) (Or.inl ⟨by rfl, ?_⟩) (by assumption) ?_
                  rotate_left
                  · intro w' hSw
                    (try dsimp only at hSw)
                    go_simp
                    try with_reducible rfl
                  try simp only [Act.put, List.getElem_toArray, List.getElem_cons_zero, List.getElem_cons_succ, List.setIfInBounds_toArray, List.set_cons_zero, List.set_cons_succ]
                  refine wpAnyH_take (i := 41) (v := ?_) rfl (by kernel_rfl) (by kernel_rfl) (by kernel_rfl) (fun _ _ _ h => h) (Or.inl ⟨by rfl, ?_⟩) (by assumption) ?_
                  rotate_left
                  · intro w' hSw
                    (try dsimp only at hSw)
                    go_simp
                    try with_reducible rfl
                  try simp only [Act.put, List.getElem_toArray, List.getElem_cons_zero, List.getElem_cons_succ, List.setIfInBounds_toArray, List.set_cons_zero, List.set_cons_succ]
                  refine wpAnyH_take (i := 42) (v := ?_) rfl (by kernel_rfl) (by kernel_rfl) (by kernel_rfl) (fun _ _ _ h => h) (Or.inl ⟨by rfl, ?_⟩) (by assumption) ?_
                  rotate_left
                  · intro w' hSw
                    (try dsimp only at hSw)
                    go_simp
                    try with_reducible rfl
                  try simp only [Act.put, List.getElem_toArray, List.getElem_cons_zero, List.getElem_cons_succ, List.setIfInBounds_toArray, List.set_cons_zero, List.set_cons_succ]
                  refine wpAnyH_take (i := 43) (v := ?_) rfl (by kernel_rfl) (by kernel_rfl) (by kernel_rfl) (fun _ _ _ h => h) (Or.inl ⟨by rfl, ?_⟩) (by assumption) ?_
                  rotate_left
                  · intro w' hSw
                    (try dsimp only at hSw)
                    go_simp
                    try with_reducible rfl
                  try simp only [Act.put, List.getElem_toArray, List.getElem_cons_zero, List.getElem_cons_succ, List.setIfInBounds_toArray, List.set_cons_zero, List.set_cons_succ]
                  refine wpAnyH_done (by kernel_rfl) ?_ _
                  refine NoPanic.normal ?_
                  clear y1 y2 R9 HB9 hq0 HC HRD
                  go_wp2
                  go_roundw
                  case rel => exact ⟨q + 1, by omega, by go_num, HB10⟩
                  case measure => simp [intOf]; omega
              · obtain rfl : q = 2 := by omega
                have h5 := HH.out.mem.below HB.out
                have HPF : Hid (PWE w1 wr gs gt p x' y' L' []) := ⟨A2, c2, A3, c3, B2, d2, Ks2, Os2, h5, HH.out.i0, HH.out.i1, HH.out.im, fun _ h => (by cases h)⟩
                have e1 : wr.cell? ⟨gs, 1, none⟩ = some (.bool x'.act) := h5.cellK 0 rfl 1
                have e2 : wr.cell? ⟨gs, 2, none⟩ = some (.int .i64 x'.term) := h5.cellK 0 rfl 2
                have e8 : wr.cell? ⟨gs, 8, none⟩ = some (.bool y'.act) := h5.cellK 0 rfl 8
                have e9 : wr.cell? ⟨gs, 9, none⟩ = some (.int .i64 y'.term) := h5.cellK 0 rfl 9
                obtain ⟨one1, one2⟩ := HI'.out.one
                have hfin : Hid (∃ x y L, Hid (Inv p (j + 1) 0 x y (L.map BI.b)) ∧ L.length ≤ 2 * (j + 1) ∧ Hid (PWE w1 wr gs gt p x y L [])) := ⟨x', y', L', HI', hL2.out, HPF⟩
                obtain ⟨t0, ht0⟩ : ∃ t : Int, (x'.term : Int) = t := ⟨_, rfl⟩
                obtain ⟨t1, ht1⟩ : ∃ t : Int, (y'.term : Int) = t := ⟨_, rfl⟩
                rw [ht0] at e2
                rw [ht1] at e9
                have hte : x'.act = true → y'.act = true → (t0 == t1) = false ∧ decide (t0 = t1) = false := fun h1 h2 => by
                  have := one2 h1 h2
                  exact ⟨beq_eq_false_iff_ne.2 (by omega), decide_eq_false (by omega)⟩
                clear one2 ht0 ht1 h5 HPF hfx hfy HWAS HH HB
                generalize x'.act = a0 at e1 one1 hte
                generalize y'.act = a1 at e8 one1 hte
                cases a0 <;> cases a1
                · simp at one1
                · clear one1 hte
                  go_wp2
                  go_roundw
                  case rel => exact ⟨j + 1, by omega, by go_num, hfin.out⟩
                  case measure => simp [intOf]; omega
                · clear one1 hte
                  go_wp2
                  go_roundw
                  case rel => exact ⟨j + 1, by omega, by go_num, hfin.out⟩
                  case measure => simp [intOf]; omega
                · obtain ⟨g1, g2⟩ := hte rfl rfl
                  clear one1 hte
                  go_wp2
                  go_roundw
                  case rel => exact ⟨j + 1, by omega, by go_num, hfin.out⟩
                  case measure => simp [intOf]; omega
        · have hb := Lib.hid (show Below w1.heap.size w1 wr from by obtain ⟨A0, c0, A1, c1, B, d, Ks, Os, h⟩ := HP.out; exact h.mem.bel)
          have hjn' : ¬ (j : Int) < (n : Int) := by omega
          go_wp2
          go_ret
          exact ⟨rfl, hb.out⟩
end Go.Proofs.Ytlccpnloankloaa.Pair
