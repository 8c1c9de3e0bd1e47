/-
  The walk of the law BusFresh. Conditions: the arguments read, within the form's own reach.
-/
import Derived.Test.YtdncdmibmopilaaFshS
import Derived.Test.YtdncdmibmopilaaFshK0
import Derived.Test.YtdncdmibmopilaaFshK1
import Derived.Test.YtdncdmibmopilaaFshT1n
import Derived.Test.YtdncdmibmopilaaFshT2n
import Derived.Test.YtdncdmibmopilaaFshT1p
import Derived.Test.YtdncdmibmopilaaFshT2p
import Derived.Deep.RegionWith
import Derived.Deep.CutBlock
import Derived.Deep.DeepCutAuto
namespace Go.Proofs.Ytdncdmibmopilaa.Bus
open Go.RowKit Go.Proofs.Ytdncdmibmopilaa.W Go.Proofs.Ytdncdmibmopilaa.Ints Go.Proofs.Ytdncdmibmopilaa.Byt Go.Proofs.Ytdncdmibmopilaa.Num Go.Proofs.Ytdncdmibmopilaa.Keep

set_option maxRecDepth 100000 in
set_option maxHeartbeats 100000000 in
theorem walk_Fresh (H : Type) (enc : TypeId × Value → H) (w : World) (watch : Int) (hwatch : (Lit.int .i64 watch).wf = true) (A : Option Addr) (n c : Nat) (ho : O.Op enc Try.prog w 48 [.slice A n c]) :
    Calls Try.prog 8 #[.int .i64 watch, .slice A n c] w fun e w' => e = .returned (.bool true) ∧ Below w.heap.size w w' := by
  obtain ⟨j0, hj0, hy0, hy1, hy2⟩ := info_parts sl_info
  obtain ⟨ts, hnc, hr, hok⟩ := posts_in ho
  obtain ⟨hv1, hv2⟩ := wf64 hwatch
  have HTL := Lib.hid (hr.rec_len PD.len (by omega))
  have HR := Lib.hid hr
  have HOK := Lib.hid hok
  clear ho hwatch hr hok
  by_cases h400 : 400 < n
  · go_enter Try.func8, Try.ntmps8
    go_wp2
    go_ret
    exact ⟨ret_bool (by first | (simp; done) | (simp; omega)), Below.refl _ _⟩
  · have hwv := pick_lt (n := watch) (m := 6) (by omega)
    generalize hV : pickN watch 6 = V at *
    have hd4 : decide (400 < (n : Int)) = false := by simp; omega
    have HV := Lib.hid hV
    have es : Hid (linkedF 5 (1 + V) [0, 65535] = (⟨5, 1 + V, [0, 65535], [0, 65535], 0, 0, false⟩, 0)) := started (by omega) (by omega) (by omega) (by omega) (by decide)
    clear hV
    go_enter Try.func8, Try.ntmps8
    go_wp2_with fail
    refine (onward_any _).mono ?_
    rintro e w1 ⟨rfl, hb⟩
    have B1 := Lib.hid hb
    have z1 := hb.size
    clear hb
    go_wp2_with fail
    refine (picked_any watch 6 _ hv1 hv2 (by omega) (by omega)).mono ?_
    rintro e w2 ⟨rfl, rfl⟩
    rw [HV.out]
    go_wp2_with fail
    refine (Start_any 5 (1 + V) _ 2 _ [0, 65535] _ (rd_two w2 3 0 65535) (by omega) (by omega)).mono ?_
    intro e w3 hf
    rw [es.out] at hf
    obtain ⟨A3, c3, B3, d3, rfl, hb3, r3, s3, g3, j3⟩ := hf.rd
    simp only [World.size_alloc, show ([0, 65535] : List Int).length = 2 from rfl] at r3 s3 g3 j3 ⊢
    have z3 := hb3.size
    simp only [World.size_alloc] at z3
    obtain ⟨gL, hgL⟩ : ∃ g, g = w3.heap.size := ⟨_, rfl⟩
    have rs3 := (rd_two w2 3 0 65535).below hb3
    have KL0 := Lib.hid (Blk.new w3 24 (linkC 5 (1 + V) (.slice A3 2 c3) (.slice B3 2 d3) 0 0 false))
    have BW0 := Lib.hid ((B1.out.trans ((below_alloc (.cells #[.int .i64 0, .int .i64 65535] 3)).trans (hb3.mono (by simp)) |>.mono z1)).alloc (show w.heap.size ≤ w3.heap.size by omega) (.cells (linkC 5 (1 + V) (.slice A3 2 c3) (.slice B3 2 d3) 0 0 false) 24))
    have RA0 : Hid (Rn (w3.alloc (.cells (linkC 5 (1 + V) (.slice A3 2 c3) (.slice B3 2 d3) 0 0 false) 24)) gL none A3 2 (ints [0, 65535])) := ⟨r3.alloc _, fun a ha => ⟨by have := g3 a ha; omega, by simp⟩⟩
    have RB0 : Hid (Rn (w3.alloc (.cells (linkC 5 (1 + V) (.slice A3 2 c3) (.slice B3 2 d3) 0 0 false) 24)) gL none B3 2 (ints (wd (-1)))) := ⟨s3.alloc _, fun a ha => ⟨by have := j3 a ha; omega, by simp⟩⟩
    have RS0 : Hid (Rn (w3.alloc (.cells (linkC 5 (1 + V) (.slice A3 2 c3) (.slice B3 2 d3) 0 0 false) 24)) gL none (some ⟨w2.heap.size, 0, none⟩) 2 (ints [0, 65535])) := ⟨rs3.alloc _, fun a ha => ⟨by cases ha; simp only; omega, by simp⟩⟩
    have ZL0 : gL < (w3.alloc (.cells (linkC 5 (1 + V) (.slice A3 2 c3) (.slice B3 2 d3) 0 0 false) 24)).heap.size := by rw [World.size_alloc]; omega
    rw [← hgL] at KL0
    have HGL := Lib.hid hgL
    have hgw : w.heap.size ≤ gL := by omega
    clear hf hb3 r3 s3 rs3 es B1 g3 j3
    go_wp2
    rw [← hgL]
    clear hgL
    go_loopw [9, 10, 11, 12] (fun sv nv qv i wr => ∃ k : Nat, k ≤ n ∧ i = .int .i64 k ∧ FRel w gL w2.heap.size V k sv nv qv wr) (fun _ _ _ i _ => n - (intOf i).toNat)
    case atStart => exact ⟨0, Nat.zero_le _, rfl, none, 0, 0, -1, 0, 0, 0, A3, c3, B3, d3, [], rfl, rfl, rfl, by omega, .inl ⟨rfl, rfl, by omega, by omega⟩, KL0, RA0, RB0, RS0, World.ownsRow_nil _ _ _ _, rfl, fun j p hp => by simp at hp, BW0, ZL0⟩
    case round =>
      clear KL0 RA0 RB0 RS0 ZL0 BW0 HGL
      obtain ⟨k, hk, rfl, SA, ns, sc, nw, qt, sq, ag, A4, c4, B4, d4, fs, rfl, rfl, rfl, ⟨hns, hnw1, hnw2, hqt1, hqt2, hsc⟩, HST, KL, RA, RB, RS, OS, HFL, HSE, BW, zw⟩ := hrel
      have zb := BW.out.size
      by_cases hlt : k < n
      · have hkt : k < ts.length := by rw [HTL.out]; exact hlt
        obtain ⟨b, o, rfl, hc⟩ := Rd.rec PD.len (HR.out.below BW.out) (by omega)
        have hp := hc k ts[k] (List.getElem?_eq_getElem hkt)
        have h1 := hp 0 _ rfl
        have h2 := hp 1 _ rfl
        have hpo := HOK.out ts[k] (List.getElem_mem hkt)
        obtain ⟨⟨ho1, ho2⟩, ho3, ho4⟩ := hpo
        generalize hPW : ts[k].what = pw at h1 ho1 ho2
        generalize hPH : ts[k].how = ph at h2 ho3 ho4
        rw [Nat.add_zero] at h1
        rw [← Nat.add_assoc] at h2
        clear hc hp hPW hPH hkt
        have hz := pick_lt (n := pw) (m := 4) (by omega)
        go_wp2_with fail
        refine (picked_any pw 4 _ ho1 ho2 (by omega) (by omega)).mono ?_
        rintro e wx ⟨rfl, rfl⟩
        try dsimp only
        generalize pickN pw 4 = zz at hz ⊢
        have hzc : zz = 0 ∨ zz = 1 ∨ zz = 2 ∨ zz = 3 := by omega
        clear hz
        go_upto_block 2 with fail
        go_cut [9, 10, 11] from 46 to 168 (fun sv nv qv wc => FRel w gL w2.heap.size V (k + 1) sv nv qv wc)
        case first =>
          rename_i J K' hJ hM
          rcases hzc with rfl | rfl | rfl | rfl
          · exact leafS w wx n c k b o gL w2.heap.size V ph _ SA ns sc _ qt _ _ A4 c4 B4 d4 fs _ _ _ _ _ _ _ _ _ _ _ _ _ _ _ _ _ _ _ _ _ _ _ _ _ _ _ _ _ _ _ _ _ _ _ _ _ _ _ _ _ _ _ _ _ _ _ _ _ _ _ _ _ _ _ _ _ _ _ _ _ _ _ _ _ _ _ _ _ _ _ _ _ _ _ _ _ _ _ _ _ _ _ _ _ _ _ _ _ _ _ _ _ _ _ _ _ _ _ _ _ _ _ _ _ _ _ _ _ _ _ _ _ _ _ _ _ _ _ _ _ _ _ _ _ _ _ _ _ _ _ _ _ _ _ _ _ _ _ _ _ _ _ _ _ _ _ _ _ _ _ _ _ _ _ _ _ _ _ _ j0 hj0 hy0 hy1 hy2 h400 hwv hgw hk hns hnw1 hnw2 hqt1 hqt2 hsc HST HFL hlt ho3 ho4 KL RA RB RS OS HSE BW zw zb h2 rfl _ _ _ _ J K' _ (by kernel_rfl) hJ hM
          · by_cases hn0 : ns = 0
            · have hn0' : ((ns : Int) == 0) = true := by simp; omega
              go_wp2
              go_roundw
              case rel => exact ⟨k + 1, by omega, by go_num, SA, ns, sc, nw, qt, sq, ag, A4, c4, B4, d4, fs, rfl, rfl, rfl, by omega, HST, KL, RA, RB, RS, OS, HFL, HSE, BW, zw⟩
              case measure => simp [intOf]; omega
            · rcases HST.out with ⟨hnw, hag, hs1, hs2⟩ | ⟨h0, h01, hsq, hag, ha1, ha2⟩
              · exact leafT1n w wx n c k b o gL w2.heap.size V ph _ SA ns sc _ qt _ _ A4 c4 B4 d4 fs _ _ _ _ _ _ _ _ _ _ _ _ _ _ _ _ _ _ _ _ _ _ _ _ _ _ _ _ _ _ _ _ _ _ _ _ _ _ _ _ _ _ _ _ _ _ _ _ _ _ _ _ _ _ _ _ _ _ _ _ _ _ _ _ _ _ _ _ _ _ _ _ _ _ _ _ _ _ _ _ _ _ _ _ _ _ _ _ _ _ _ _ _ _ _ _ _ _ _ _ _ _ _ _ _ _ _ _ _ _ _ _ _ _ _ _ _ _ _ _ _ _ _ _ _ _ _ _ _ _ _ _ _ _ _ _ _ _ _ _ _ _ _ _ _ _ _ _ _ _ _ _ _ _ _ _ _ _ _ _ j0 hj0 hy0 hy1 hy2 h400 hwv hgw hk hns hnw1 hnw2 hqt1 hqt2 hsc HST HFL hlt ho3 ho4 KL RA RB RS OS HSE BW zw zb h2 rfl hn0 hnw hag hs1 hs2 _ _ _ _ J K' _ (by kernel_rfl) hJ hM
              · obtain ⟨j, hj⟩ := Int.eq_ofNat_of_zero_le h0
                exact leafT1p w wx n c k b o gL w2.heap.size V ph _ SA ns sc _ qt _ _ A4 c4 B4 d4 fs _ _ _ _ _ _ _ _ _ _ _ _ _ _ _ _ _ _ _ _ _ _ _ _ _ _ _ _ _ _ _ _ _ _ _ _ _ _ _ _ _ _ _ _ _ _ _ _ _ _ _ _ _ _ _ _ _ _ _ _ _ _ _ _ _ _ _ _ _ _ _ _ _ _ _ _ _ _ _ _ _ _ _ _ _ _ _ _ _ _ _ _ _ _ _ _ _ _ _ _ _ _ _ _ _ _ _ _ _ _ _ _ _ _ _ _ _ _ _ _ _ _ _ _ _ _ _ _ _ _ _ _ _ _ _ _ _ _ _ _ _ _ _ _ _ _ _ _ _ _ _ _ _ _ _ _ _ _ _ _ j0 hj0 hy0 hy1 hy2 h400 hwv hgw hk hns hnw1 hnw2 hqt1 hqt2 hsc HST HFL hlt ho3 ho4 KL RA RB RS OS HSE BW zw zb h2 rfl hn0 j hj (by rw [hsq, hj]) hag (by omega) ha1 ha2 _ _ _ _ J K' _ (by kernel_rfl) hJ hM
          · by_cases hn0 : ns = 0
            · have hn0' : ((ns : Int) == 0) = true := by simp; omega
              go_wp2
              go_roundw
              case rel => exact ⟨k + 1, by omega, by go_num, SA, ns, sc, nw, qt, sq, ag, A4, c4, B4, d4, fs, rfl, rfl, rfl, by omega, HST, KL, RA, RB, RS, OS, HFL, HSE, BW, zw⟩
              case measure => simp [intOf]; omega
            · rcases HST.out with ⟨hnw, hag, hs1, hs2⟩ | ⟨h0, h01, hsq, hag, ha1, ha2⟩
              · exact leafT2n w wx n c k b o gL w2.heap.size V ph _ SA ns sc _ qt _ _ A4 c4 B4 d4 fs _ _ _ _ _ _ _ _ _ _ _ _ _ _ _ _ _ _ _ _ _ _ _ _ _ _ _ _ _ _ _ _ _ _ _ _ _ _ _ _ _ _ _ _ _ _ _ _ _ _ _ _ _ _ _ _ _ _ _ _ _ _ _ _ _ _ _ _ _ _ _ _ _ _ _ _ _ _ _ _ _ _ _ _ _ _ _ _ _ _ _ _ _ _ _ _ _ _ _ _ _ _ _ _ _ _ _ _ _ _ _ _ _ _ _ _ _ _ _ _ _ _ _ _ _ _ _ _ _ _ _ _ _ _ _ _ _ _ _ _ _ _ _ _ _ _ _ _ _ _ _ _ _ _ _ _ _ _ _ _ j0 hj0 hy0 hy1 hy2 h400 hwv hgw hk hns hnw1 hnw2 hqt1 hqt2 hsc HST HFL hlt ho3 ho4 KL RA RB RS OS HSE BW zw zb h2 rfl hn0 hnw hag hs1 hs2 _ _ _ _ J K' _ (by kernel_rfl) hJ hM
              · obtain ⟨j, hj⟩ := Int.eq_ofNat_of_zero_le h0
                exact leafT2p w wx n c k b o gL w2.heap.size V ph _ SA ns sc _ qt _ _ A4 c4 B4 d4 fs _ _ _ _ _ _ _ _ _ _ _ _ _ _ _ _ _ _ _ _ _ _ _ _ _ _ _ _ _ _ _ _ _ _ _ _ _ _ _ _ _ _ _ _ _ _ _ _ _ _ _ _ _ _ _ _ _ _ _ _ _ _ _ _ _ _ _ _ _ _ _ _ _ _ _ _ _ _ _ _ _ _ _ _ _ _ _ _ _ _ _ _ _ _ _ _ _ _ _ _ _ _ _ _ _ _ _ _ _ _ _ _ _ _ _ _ _ _ _ _ _ _ _ _ _ _ _ _ _ _ _ _ _ _ _ _ _ _ _ _ _ _ _ _ _ _ _ _ _ _ _ _ _ _ _ _ _ _ _ _ j0 hj0 hy0 hy1 hy2 h400 hwv hgw hk hns hnw1 hnw2 hqt1 hqt2 hsc HST HFL hlt ho3 ho4 KL RA RB RS OS HSE BW zw zb h2 rfl hn0 j hj (by rw [hsq, hj]) hag (by omega) ha1 ha2 _ _ _ _ J K' _ (by kernel_rfl) hJ hM
          · rcases HST.out with ⟨hnw, hag, hs1, hs2⟩ | ⟨h0, h01, hsq, hag, ha1, ha2⟩
            · exact leafK0 w wx n c k b o gL w2.heap.size V ph _ SA ns sc _ qt _ _ A4 c4 B4 d4 fs _ _ _ _ _ _ _ _ _ _ _ _ _ _ _ _ _ _ _ _ _ _ _ _ _ _ _ _ _ _ _ _ _ _ _ _ _ _ _ _ _ _ _ _ _ _ _ _ _ _ _ _ _ _ _ _ _ _ _ _ _ _ _ _ _ _ _ _ _ _ _ _ _ _ _ _ _ _ _ _ _ _ _ _ _ _ _ _ _ _ _ _ _ _ _ _ _ _ _ _ _ _ _ _ _ _ _ _ _ _ _ _ _ _ _ _ _ _ _ _ _ _ _ _ _ _ _ _ _ _ _ _ _ _ _ _ _ _ _ _ _ _ _ _ _ _ _ _ _ _ _ _ _ _ _ _ _ _ _ _ j0 hj0 hy0 hy1 hy2 h400 hwv hgw hk hns hnw1 hnw2 hqt1 hqt2 hsc HST HFL hlt ho3 ho4 KL RA RB RS OS HSE BW zw zb h2 rfl hnw hag hs1 hs2 _ _ _ _ J K' _ (by kernel_rfl) hJ hM
            · obtain ⟨j, hj⟩ := Int.eq_ofNat_of_zero_le h0
              exact leafK1 w wx n c k b o gL w2.heap.size V ph _ SA ns sc _ qt _ _ A4 c4 B4 d4 fs _ _ _ _ _ _ _ _ _ _ _ _ _ _ _ _ _ _ _ _ _ _ _ _ _ _ _ _ _ _ _ _ _ _ _ _ _ _ _ _ _ _ _ _ _ _ _ _ _ _ _ _ _ _ _ _ _ _ _ _ _ _ _ _ _ _ _ _ _ _ _ _ _ _ _ _ _ _ _ _ _ _ _ _ _ _ _ _ _ _ _ _ _ _ _ _ _ _ _ _ _ _ _ _ _ _ _ _ _ _ _ _ _ _ _ _ _ _ _ _ _ _ _ _ _ _ _ _ _ _ _ _ _ _ _ _ _ _ _ _ _ _ _ _ _ _ _ _ _ _ _ _ _ _ _ _ _ _ _ _ j0 hj0 hy0 hy1 hy2 h400 hwv hgw hk hns hnw1 hnw2 hqt1 hqt2 hsc HST HFL hlt ho3 ho4 KL RA RB RS OS HSE BW zw zb h2 rfl j hj (by rw [hsq, hj]) hag (by omega) ha1 ha2 _ _ _ _ J K' _ (by kernel_rfl) hJ hM
        case rest =>
          clear KL RA RB RS OS HSE BW HST HFL hns hnw1 hnw2 hqt1 hqt2 hsc zw zb h1 h2 hzc
          obtain ⟨SA, ns, sc, nw, qt, sq, ag, A4, c4, B4, d4, fs, rfl, rfl, rfl, ⟨hns, hnw1, hnw2, hqt1, hqt2, hsc⟩, HST, KL, RA, RB, RS, OS, HFL, HSE, BW, zw⟩ := hcut
          obtain ⟨wv, hwvv⟩ : ∃ wv : World, wv = wc := ⟨_, rfl⟩
          subst hwvv
          rcases HST.out with ⟨hnw, hag, hs1, hs2⟩ | ⟨h0, h01, hsq, hag, ha1, ha2⟩
          · subst hnw hag
            have KL1 : Hid (Blk wv gL 24 (linkC 5 (1 + V) (.slice A4 2 c4) (.slice B4 2 d4) sq 0 false)) := KL
            have RB1 : Hid (Rn wv gL (Value.slice SA ns sc).ownBlock B4 2 (ints [0, 65535])) := RB
            clear KL RB
            have d4' := KL1.out.cell
            have e4' := KL1.out.frozen
            go_wp2_with fail
            refine (equal_any B4 (some ⟨w2.heap.size, 0, none⟩) 2 2 d4 2 [0, 65535] [0, 65535] _ RB1.out.1 RS.out.1 (by unfold maxLen; omega)).mono ?_
            rintro e wy ⟨rfl, qd, rfl⟩
            try dsimp only
            rw [show decide (([0, 65535] : List Int) = [0, 65535]) = true from rfl]
            go_wp2
            go_roundw
            case rel => exact ⟨k + 1, by omega, by go_num, SA, ns, sc, -1, qt, sq, 0, A4, c4, B4, d4, fs, rfl, rfl, rfl, by omega, HST, KL1.out.drewN qd, RA.out.drewN qd, RB1.out.drewN qd, RS.out.drewN qd, OS.out, HFL, HSE.out.drewN qd, below_drewN BW.out qd, zw⟩
            case measure => simp [intOf]; omega
          · obtain ⟨j, rfl⟩ := Int.eq_ofNat_of_zero_le h0
            subst hsq
            have KL1 : Hid (Blk wv gL 24 (linkC 5 (1 + V) (.slice A4 2 c4) (.slice B4 2 d4) ((j : Int) % 256) ag true)) := by
              have h := KL
              rwa [show decide (0 ≤ (j : Int)) = true from by simp] at h
            have RB1 : Hid (Rn wv gL (Value.slice SA ns sc).ownBlock B4 2 (ints [(j : Int), 1000 - (j : Int)])) := by
              have h := RB
              rwa [wd_nat] at h
            clear KL RB
            have d4' := KL1.out.cell
            have e4' := KL1.out.frozen
            go_wp2_with fail
            refine (equal_any B4 (some ⟨wv.heap.size, 0, none⟩) 2 2 d4 2 [(j : Int), 1000 - (j : Int)] [(j : Int), 1000 - (j : Int)] _ (RB1.out.1.alloc _) (rd_two wv 3 (j : Int) (1000 - (j : Int))) (by unfold maxLen; omega)).mono ?_
            rintro e wy ⟨rfl, qd, rfl⟩
            try dsimp only
            rw [show decide ([(j : Int), 1000 - (j : Int)] = [(j : Int), 1000 - (j : Int)]) = true from by simp]
            go_wp2
            go_roundw
            case rel =>
              refine ⟨k + 1, by omega, by go_num, SA, ns, sc, (j : Int), qt, (j : Int) % 256, ag, A4, c4, B4, d4, fs, rfl, rfl, rfl, by omega, HST, ?_, (RA.out.alloc _).drewN qd, ?_, (RS.out.alloc _).drewN qd, own_below OS.out (below_drewN (below_alloc _) qd), HFL, (HSE.out.alloc _).drewN qd, below_drewN (BW.out.alloc (by omega) _) qd, ?_⟩
              · rw [show decide (0 ≤ (j : Int)) = true from by simp]; exact (KL1.out.alloc _).drewN qd
              · rw [wd_nat]; exact (RB1.out.alloc _).drewN qd
              · show _ < (World.alloc wv _).heap.size
                rw [World.size_alloc]; omega
            case measure => simp [intOf]; omega
      · have hkn : n ≤ k := by omega
        go_wp2
        go_ret
        exact ⟨rfl, BW.out⟩
end Go.Proofs.Ytdncdmibmopilaa.Bus
