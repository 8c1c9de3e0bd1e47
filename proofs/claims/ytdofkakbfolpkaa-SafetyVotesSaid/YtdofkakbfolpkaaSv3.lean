/-
  The walk of the law SafetyVotes. Conditions: the arguments read, within the form's own reach.
-/
import Derived.Test.YtdofkakbfolpkaaSv2

import Derived.BigRegion
import Derived.Deep.DeepCutAuto
namespace Go.Proofs.Ytdofkakbfolpkaa.Sf
open Go.RowKit Go.Proofs.Ytdofkakbfolpkaa.W Go.Proofs.Ytdofkakbfolpkaa.Ints Go.Proofs.Ytdofkakbfolpkaa.Pop Go.Proofs.Ytdofkakbfolpkaa.Keep

theorem row_in {H : Type} {enc : TypeId × Value → H} {w : World} {M : Option Addr} {ml mc : Nat} (h : O.Op enc Try.prog w 26 [.slice M ml mc]) :
    ∃ xs, Rd w 1 M ml (ints xs) ∧ ml ≤ 17592186043904 ∧ ∀ x ∈ xs, -9223372036854775808 ≤ x ∧ x ≤ 9223372036854775807 := by
  obtain ⟨A, n, c, xs, e0, hnc, hc, hr, hx, _⟩ := h.ints Try.underlying26 Try.underlying3 (by kernel_rfl) (by kernel_rfl)
  injection e0 with e0 _
  injection e0 with e1 e2 e3
  subst e1 e2 e3
  exact ⟨xs, hr, by omega, hx⟩

set_option maxRecDepth 100000 in
set_option maxHeartbeats 6400000 in
theorem walk_Votes (H : Type) (enc : TypeId × Value → H) (w : World) (Z : Option Addr) (n c : Nat) (o0 : O.Op enc Try.prog w 42 [.slice Z n c]) (delay : Int) (hd : (Lit.int .i64 delay).wf = true)
    (Q : Option Addr) (sl sc : Nat) (o2 : O.Op enc Try.prog w 43 [.slice Q sl sc]) (M : Option Addr) (ml mc : Nat) (o3 : O.Op enc Try.prog w 26 [.slice M ml mc]) :
    Calls Try.prog 6 #[.slice Z n c, .int .i64 delay, .slice Q sl sc, .slice M ml mc] w fun e w' => e = .returned (.bool true) ∧ Below w.heap.size w w' := by
  obtain ⟨hd1, hd2⟩ : -9223372036854775808 ≤ delay ∧ delay ≤ 9223372036854775807 := by simpa [Lit.wf, IntKind.min, IntKind.max, IntKind.signed, IntKind.bits] using hd
  obtain ⟨bs, hnm, hr, hx⟩ := ballots_in o0
  obtain ⟨ss, hsm, hs⟩ := steps_in o2
  obtain ⟨ms, hmr, hmm, hmx⟩ := row_in o3
  clear o0 o2 o3 hd
  unfold maxLen at hsm
  by_cases hbig : 500 < sl
  · have hbig' : 500 < (sl : Int) := by omega
    go_enter Try.func6, Try.ntmps6
    go_wp2
    go_ret
    exact ⟨rfl, Below.refl _ _⟩
  have hbig' : decide (500 < (sl : Int)) = false := decide_eq_false (by omega)
  have hs500 : sl ≤ 500 := by omega
  have hpk := pick_lt (n := delay) (m := 4) (by omega)
  have hgf := guard_fine (ps := bs.map VD.pl) (d := pickN delay 4) hpk.1 hpk.2
  have hplen := guard_to_len (bs.map VD.pl) (min 8 (bs.map VD.pl).length)
  have HGD : Hid (∀ W : World, GRd W Z n bs → Calls Try.prog 18 #[.slice Z n c, .int .i64 delay] W fun e w' => GOwn W w' e (pickN delay 4) (guardP (bs.map VD.pl))) := fun W h => guard_any Z n c delay bs W h hnm hx hd1 hd2
  have HR := Lib.hid hr
  have HS := Lib.hid hs
  have HM := Lib.hid hmr
  have HML := Lib.hid (rd_len hmr)
  have HMX := Lib.hid hmx
  have hp16 : (guardP (bs.map VD.pl)).length ≤ 9 := by unfold guardP; omega
  have hp1 : 1 ≤ (guardP (bs.map VD.pl)).length := by simp [guardP, guardTo]
  have HGF := Lib.hid hgf
  have HFST : Hid (∃ qs, guardP (bs.map VD.pl) = (2, [0, 1, 2]) :: qs) := ⟨_, rfl⟩
  have hgood := guard_good (bs.map VD.pl) (min 8 (bs.map VD.pl).length)
  have HGOOD : Hid ((guardP (bs.map VD.pl)).any (badV 6) = false) := hgood
  generalize guardP (bs.map VD.pl) = ps at *
  generalize pickN delay 4 = d at *
  obtain ⟨d0, d4⟩ := hpk
  clear hr hs hx hgf hplen hgood hbig hmr hmx
  go_enter Try.func6, Try.ntmps6
  go_wp2_with fail
  refine (HGD.out _ HR.out).mono ?_
  rintro e w1 ⟨B, c1, us, base, gx, rfl, hpl, hbase, ho, hf, _, hb⟩
  have hul : us.length = ps.length := by rw [← hpl, List.length_map]
  have hu := FrO.rd hf ho
  have HPL := Lib.hid hpl
  generalize hK : us.length = K at *
  have HKP : Hid (ps.length = K) := by rw [Hid]; exact hul.symm
  have hK9 : K ≤ 9 := by omega
  have hK1 : 1 ≤ K := by omega
  have KG := Lib.hid (Blk.new w1 24 #[.int .i64 6, .int .i64 d, .slice B K c1])
  have HU := Lib.hid (hu.alloc (.cells #[.int .i64 6, .int .i64 d, .slice B K c1] 24))
  have B1 := Lib.hid (hb.alloc hb.size (.cells #[.int .i64 6, .int .i64 d, .slice B K c1] 24))
  have z1 := hb.size
  have zA : (w1.alloc (.cells #[.int .i64 6, .int .i64 d, .slice B K c1] 24)).heap.size = w1.heap.size + 1 := by simp
  clear ho hf hb hu hpl hbase hul hp16 hp1 hK
  go_wp2_with fail
  generalize w1.alloc (.cells #[.int .i64 6, .int .i64 d, .slice B K c1] 24) = WA at *
  refine (HGD.out _ (HR.out.below B1.out)).mono ?_
  rintro e w2 ⟨B2, c2, vs, base2, gx2, rfl, hpl2, hbase2, ho2, hf2, hap2, hb2⟩
  have hvl : vs.length = K := by rw [← HKP.out, ← hpl2, List.length_map]
  rw [hvl] at ho2 ⊢
  have HPL2 := Lib.hid hpl2
  have HAP := Lib.hid hap2
  have HVL := Lib.hid hvl
  have z2 := hb2.size
  have hbz : base2 ≤ w2.heap.size := by
    obtain ⟨g, _, h1, h2⟩ := own_head ho2 (by omega)
    omega
  have KH := Lib.hid (Blk.new w2 24 #[.int .i64 6, .int .i64 d, .slice B2 K c2])
  have HO2 := Lib.hid (own_below ho2 (below_alloc (.cells #[.int .i64 6, .int .i64 d, .slice B2 K c2] 24)))
  have HF2 : Hid (FrO base2 w2.heap.size B2 (midR vs 0) (w2.alloc (.cells #[.int .i64 6, .int .i64 d, .slice B2 K c2] 24))) := by rw [midR_zero]; exact hf2.fresh.below (below_alloc _)
  have BA := Lib.hid (hb2.alloc hb2.size (.cells #[.int .i64 6, .int .i64 d, .slice B2 K c2] 24))
  have zB : (w2.alloc (.cells #[.int .i64 6, .int .i64 d, .slice B2 K c2] 24)).heap.size = w2.heap.size + 1 := by simp
  clear ho2 hf2 hb2 hpl2 hap2 hvl HGD HR
  go_wp2
  generalize w2.alloc (.cells #[.int .i64 6, .int .i64 d, .slice B2 K c2] 24) = WB at *
  go_loopw [11, 12, 13, 14] (fun iv _ _ _ wr => ∃ i : Nat, i ≤ K ∧ iv = .int .i64 i ∧ Hid (Blk wr w2.heap.size 24 #[.int .i64 6, .int .i64 d, .slice B2 K c2]) ∧ Hid (wr.ownsRow base2 50 2 (.slice B2 K c2) K (votesV vs)) ∧ Hid (FrO base2 w2.heap.size B2 (midR vs i) wr) ∧ Hid (Below WA.heap.size WA wr) ∧ w2.heap.size < wr.heap.size) (fun iv _ _ _ _ => K - (intOf iv).toNat)
  case atStart => exact ⟨0, Nat.zero_le _, rfl, KH, HO2, HF2, BA, by omega⟩
  case round =>
    clear HO2 HF2 zB KH
    obtain ⟨i, hi, rfl, kh, ho, hf, hb, hzr⟩ := hrel
    obtain ⟨wo, hwo⟩ : ∃ w0 : World, w0 = wr := ⟨_, rfl⟩
    subst hwo
    by_cases hlt : i < K
    · have hiv : i < vs.length := by rw [HVL.out]; exact hlt
      have hGR : GRd wo B2 K (midR vs i) := FrO.rd hf.out (by rw [votes_midR]; exact ho.out)
      obtain ⟨b, o, v, rfl, hvt, hbl, v0, v1, hrv, hvn, hvc⟩ := vote_at hGR hlt
      have hvt' : vs[i]? = some v := by
        have h := midR_at (List.getElem?_eq_getElem hiv)
        rw [hvt] at h
        injection h with h
        rw [h, List.getElem?_eq_getElem hiv]
      have hpt := pl_at hvt'
      rw [HPL2.out] at hpt
      have hgv := good_vote (not_bad HGOOD.out hpt)
      have hol : v.of.length = v.n := rd_len hrv
      have hv1 : 1 ≤ v.n := by
        have := hgv.2.2
        omega
      obtain ⟨hov, _, hva0⟩ := hf.out v (List.mem_of_getElem? hvt)
      obtain ⟨gA, hA, hgb, hgl⟩ := own_head hov (by omega)
      obtain ⟨need, A, vn, vc, of⟩ := v
      simp only at v0 v1 hrv hvn hvc hov hA hva0 hol hv1 hpt hgv
      subst hA
      have hva := hva0 _ rfl
      simp only at hva
      have HVT := Lib.hid hvt'
      have HOL := Lib.hid hol
      have ch := kh.out.cell
      have hi0 : (0 : Int) ≤ (i : Int) := by omega
      have hiK : (i : Int) < (K : Int) := by omega
      have HV0 : Hid (wo.ownsRow base2 3 1 (.slice (some ⟨gA, 0, none⟩) vn vc) vn (ints (revTo of 0))) := by rw [revTo_zero]; exact hov
      have HG0 : Hid (wo.grownBy wo (some gA)) := Grow.refl _ _
      have hgh : gA ≠ w2.heap.size := hva.2.2.1
      have hgB : gA ≠ b := hva.2.2.2 _ rfl
      clear hGR hvt hvt' hpt hgv hol hov hva hva0 hrv v0
      go_wp2_with fail
      go_loopw [13, 14] (fun av bv wr => ∃ k m : Nat, av = .int .i64 k ∧ bv = .int .i64 m ∧ Hid (k + m + 1 = vn) ∧ k ≤ vn ∧ m < vn ∧ Hid (wr.ownsRow base2 3 1 (.slice (some ⟨gA, 0, none⟩) vn vc) vn (ints (revTo of k))) ∧ Hid (wo.grownBy wr (some gA))) (fun av _ _ => vn - (intOf av).toNat)
      case atStart => exact ⟨0, vn - 1, rfl, by congr 1; omega, by rw [Hid]; omega, by omega, by omega, HV0, HG0⟩
      case round =>
        clear HV0 HG0 ch v1
        obtain ⟨k, m, rfl, rfl, hkm, hkn, hmn, ho3, hg⟩ := hrel
        by_cases hkk : k < m
        · have hk0 : (0 : Int) ≤ (k : Int) := by omega
          have hm0 : (0 : Int) ≤ (m : Int) := by omega
          have hkI : (k : Int) < (vn : Int) := by omega
          have hmI : (m : Int) < (vn : Int) := by omega
          have hkmI : (k : Int) < (m : Int) := by omega
          have hne : k ≠ m := by omega
          have hkm' : k + m + 1 = of.length := by rw [HOL.out]; exact hkm.out
          have ck : wr.cell? ⟨gA, k, none⟩ = some (.int .i64 (of.getD k 0)) := by
            rw [ho3.out.cellAt k (by omega), List.getElem?_map, revTo_low hkm' hkk]
            rfl
          have cm : wr.cell? ⟨gA, m, none⟩ = some (.int .i64 (of.getD m 0)) := by
            rw [ho3.out.cellAt m (by omega), List.getElem?_map, revTo_high hkm' hkk]
            rfl
          have fk := ho3.out.frozenAt k
          have fm := ho3.out.frozenAt m
          obtain ⟨g1, g2⟩ := ho3.out.stored k (.int .i64 (of.getD m 0))
          obtain ⟨g3, g4⟩ := g1.stored m (.int .i64 (of.getD k 0))
          rw [ints_set, ints_set, revTo_next hkm' hkk] at g3
          have HO3 := Lib.hid g3
          have HG3 := Lib.hid (Grow.trans hg.out (Grow.trans g2 g4 (fun _ _ => .inl rfl)) (fun _ _ => .inl rfl))
          have HKM : Hid ((k + 1) + (m - 1) + 1 = vn) := by rw [Hid]; have := hkm.out; omega
          clear g1 g2 g3 g4 ho3 hg hkm'
          generalize of.getD k 0 = xk at *
          generalize of.getD m 0 = xm at *
          go_wp2_with fail
          go_region
          go_wp2
          go_roundw
          case rel => exact ⟨k + 1, m - 1, by go_num, by congr 1; omega, HKM, by omega, by omega, HO3.out.drew, grow_drewN HG3.out 1⟩
          case measure => simp [intOf]; omega
        · have hkm' : k + m + 1 = of.length := by rw [HOL.out]; exact hkm.out
          have ho4 := ho3.out
          rw [revTo_end hkm' hkk] at ho4
          have HGW := Lib.hid hg.out
          have HF4 := Lib.hid (hf.out.rev HAP.out HVT.out hg.out ho4)
          have HO4 := Lib.hid (own_grown ho.out hg.out (fun g h e => by
            have h : some b = some g := h
            injection h with h
            injection e with e
            omega))
          have KH4 := Lib.hid (kh.out.grown hg.out (fun e => by injection e with e; omega))
          have HB4 := Lib.hid (hb.out.trans (Grow.below hg.out (B := WA.heap.size) (by omega) (fun g h => by injection h with h; omega)))
          have hz4 := hg.out.size
          clear ho4 hkm' ho3 hg
          go_wp2
          go_roundw
          case rel => exact ⟨i + 1, by omega, by go_num, KH4, HO4, HF4, HB4, by omega⟩
          case measure => simp [intOf]; omega
    · obtain rfl : i = K := by omega
      have HVR : Hid (GRd wo B2 i (vs.map rvV)) := by
        have h := hf.out
        rw [← HVL.out, midR_all] at h
        have h2 := FrO.rd (n := i) (c := c2) h (by rw [votes_rv]; exact ho.out)
        exact h2
      have HUO := Lib.hid (HU.out.below hb.out)
      have KGO := Lib.hid (KG.out.below hb.out)
      have HSO := Lib.hid (HS.out.below (B1.out.trans (hb.out.mono (by omega))))
      have HMO := Lib.hid (HM.out.below (B1.out.trans (hb.out.mono (by omega))))
      have BWO := Lib.hid (B1.out.trans (hb.out.mono (by omega)))
      have HSTg := Lib.hid (start_k d ps us B i c1 HGF.out HPL.out HKP.out)
      have HSTh := Lib.hid (start_k d (ps.map revP) (vs.map rvV) B2 i c2 (guard_rev HGF.out) (by rw [pl_rv, HPL2.out]) (by rw [List.length_map]; exact HKP.out))
      have HSPg := Lib.hid (step_k d ps us B i c1 HGF.out HPL.out HKP.out)
      have HSPh := Lib.hid (step_kr d ps vs B2 i c2 HGF.out HPL2.out HKP.out)
      have hd1000 := guard_len (m := 6) (d := d) (ps := ps) (by rw [HGF.out])
      have cg := KGO.out.cell
      have ch := kh.out.cell
      have KHO := kh
      clear kh
      have hw1 : w1.heap.size < wo.heap.size := by omega
      clear ho hf hlt hi HU HS HM HPL HPL2 HAP HGOOD hb hbz hbase2 BA KG B1
      go_wp2_with fail
      refine (HSTg.out _ HUO.out).mono ?_
      rintro e w3 ⟨A3, c3, rfl, r3, hA3, hb3⟩
      have z3 := hb3.size
      have BX3 : Hid (Below wo.heap.size wo (w3.alloc (.cells #[.bool false, .int .i64 (-1), .slice A3 i c3, .bool false] 28))) := hb3.alloc z3 _
      have KT3 := Lib.hid (Blk.new w3 28 #[.bool false, .int .i64 (-1), .slice A3 i c3, .bool false])
      have R3 := Lib.hid (r3.alloc (.cells #[.bool false, .int .i64 (-1), .slice A3 i c3, .bool false] 28))
      have hX3 : (w3.alloc (.cells #[.bool false, .int .i64 (-1), .slice A3 i c3, .bool false] 28)).heap.size = w3.heap.size + 1 := by simp
      have cg := (KGO.out.below BX3.out).cell
      clear r3 hb3
      go_wp2_with fail
      generalize w3.alloc (.cells #[.bool false, .int .i64 (-1), .slice A3 i c3, .bool false] 28) = X3 at *
      refine (HSTg.out _ (HUO.out.below BX3.out)).mono ?_
      rintro e w4 ⟨A4, c4, rfl, r4, hA4, hb4⟩
      have z4 := hb4.size
      have BX4 : Hid (Below wo.heap.size wo (w4.alloc (.cells #[.bool false, .int .i64 (-1), .slice A4 i c4, .bool false] 28))) := (BX3.out.trans (hb4.mono (by omega))).alloc (by omega) _
      have KT3 := Lib.hid ((KT3.out.below hb4).alloc (.cells #[.bool false, .int .i64 (-1), .slice A4 i c4, .bool false] 28))
      have R3 := Lib.hid ((R3.out.below hb4).alloc (.cells #[.bool false, .int .i64 (-1), .slice A4 i c4, .bool false] 28))
      have KT4 := Lib.hid (Blk.new w4 28 #[.bool false, .int .i64 (-1), .slice A4 i c4, .bool false])
      have R4 := Lib.hid (r4.alloc (.cells #[.bool false, .int .i64 (-1), .slice A4 i c4, .bool false] 28))
      have hX4 : (w4.alloc (.cells #[.bool false, .int .i64 (-1), .slice A4 i c4, .bool false] 28)).heap.size = w4.heap.size + 1 := by simp
      have cg := (KHO.out.below BX4.out).cell
      clear r4 hb4 BX3
      go_wp2_with fail
      generalize w4.alloc (.cells #[.bool false, .int .i64 (-1), .slice A4 i c4, .bool false] 28) = X4 at *
      refine (HSTh.out _ (HVR.out.below BX4.out)).mono ?_
      rintro e w5 ⟨A5, c5, rfl, r5, hA5, hb5⟩
      have z5 := hb5.size
      have BX5 : Hid (Below wo.heap.size wo (w5.alloc (.cells #[.bool false, .int .i64 (-1), .slice A5 i c5, .bool false] 28))) := (BX4.out.trans (hb5.mono (by omega))).alloc (by omega) _
      have BT : Hid (Bx w3.heap.size w4.heap.size w5.heap.size w3.heap.size i false (-1) (List.replicate i 0) A3 c3 (w5.alloc (.cells #[.bool false, .int .i64 (-1), .slice A5 i c5, .bool false] 28))) :=
        ⟨(KT3.out.below hb5).alloc _, (R3.out.below hb5).alloc _, fun a ha => by have := (hA3 a ha).2; rw [World.size_alloc]; omega⟩
      have BU : Hid (Bx w3.heap.size w4.heap.size w5.heap.size w4.heap.size i false (-1) (List.replicate i 0) A4 c4 (w5.alloc (.cells #[.bool false, .int .i64 (-1), .slice A5 i c5, .bool false] 28))) :=
        ⟨(KT4.out.below hb5).alloc _, (R4.out.below hb5).alloc _, fun a ha => by have := hA4 a ha; rw [World.size_alloc]; omega⟩
      have BV : Hid (Bx w3.heap.size w4.heap.size w5.heap.size w5.heap.size i false (-1) (List.replicate i 0) A5 c5 (w5.alloc (.cells #[.bool false, .int .i64 (-1), .slice A5 i c5, .bool false] 28))) :=
        ⟨Blk.new w5 _ _, r5.alloc _, fun a ha => by have := hA5 a ha; rw [World.size_alloc]; omega⟩
      have hX5 : (w5.alloc (.cells #[.bool false, .int .i64 (-1), .slice A5 i c5, .bool false] 28)).heap.size = w5.heap.size + 1 := by simp
      have hx34 : w3.heap.size < w4.heap.size := by omega
      have hx45 : w4.heap.size < w5.heap.size := by omega
      have SB : Hid (standsB d i ⟨false, -1, List.replicate i 0, false⟩ = true) := by
        have h := stands_clip (d := d) (n := i) (down := false) (key := false) (first := -1) (lg := List.replicate i 0) d0 (by simp) (fun x hx => by rw [(List.mem_replicate.1 hx).2]; omega) (.inl ⟨rfl, rfl⟩)
        rw [List.map_replicate, show clip d 0 = 0 from by unfold clip; rw [if_neg (by omega)]] at h
        exact h
      have MB : Hid (More ⟨false, -1, List.replicate i 0, false⟩ ⟨false, -1, List.replicate i 0, false⟩) := ⟨fun h => h, leL_zero i⟩
      clear r5 hb5 BX4 KT3 KT4 R3 R4 hA3 hA4 hA5 cg HSTg HSTh
      go_wp2
      generalize w5.alloc (.cells #[.bool false, .int .i64 (-1), .slice A5 i c5, .bool false] 28) = X5 at *
      generalize List.replicate i (0 : Int) = z0 at *
      clear hd1000 ch cg
      go_loopw [16, 18, 20, 21, 22, 23, 24, 25] (fun ev fv kv dv iv _ _ _ wr => ∃ (j : Nat) (td ud : Bool) (tf uf : Int) (th uh : List Int) (TA UA VA : Option Addr) (tc uc vc : Nat), j ≤ sl ∧ ev = .int .i64 0 ∧ fv = .int .i64 0 ∧ kv = .int .i64 0 ∧ dv = .bool td ∧ iv = .int .i64 j ∧ Hid (standsB d i ⟨td, tf, th, false⟩ = true) ∧ Hid (standsB d i ⟨ud, uf, uh, false⟩ = true) ∧ Hid (More ⟨td, tf, th, false⟩ ⟨ud, uf, uh, false⟩) ∧
          Hid (Bx w3.heap.size w4.heap.size w5.heap.size w3.heap.size i td tf th TA tc wr) ∧ Hid (Bx w3.heap.size w4.heap.size w5.heap.size w4.heap.size i ud uf uh UA uc wr) ∧ Hid (Bx w3.heap.size w4.heap.size w5.heap.size w5.heap.size i td tf th VA vc wr) ∧ Hid (Below wo.heap.size wo wr) ∧ w5.heap.size < wr.heap.size) (fun _ _ _ _ iv _ _ _ _ => sl - (intOf iv).toNat)
      case atStart => exact ⟨0, false, false, -1, -1, z0, z0, A3, A4, A5, c3, c4, c5, Nat.zero_le _, rfl, rfl, rfl, rfl, rfl, SB, SB, MB, BT, BU, BV, BX5, by omega⟩
      case round =>
        clear SB MB BT BU BV BX5 hX5
        obtain ⟨j, td, ud, tf, uf, th, uh, TA, UA, VA, tc, uc, vc, hj, rfl, rfl, rfl, rfl, rfl, hst, hsu, hmo, bt, bu, bv, hb, hxr⟩ := hrel
        by_cases hlt : j < sl
        · obtain ⟨b, o, s, rfl, hst', hbl, v0, v1, hrs, hns, hxs⟩ := sd_at (HSO.out.below hb.out) hlt
          obtain ⟨As, ns, cs, sk, xs⟩ := s
          simp only at v0 v1 hrs hns hxs
          have hj0 : (0 : Int) ≤ (j : Int) := by omega
          have hjs : (j : Int) < (sl : Int) := by omega
          clear hst'
          go_wp2_with fail
          refine (tell_any As ns cs sk xs _ hrs hns hxs).mono ?_
          intro e w6 hf6
          obtain ⟨g6, rfl, hg61, hg62, ho6, hb6⟩ := hf6
          have hz6 := hb6.size
          have HB6 := Lib.hid hb6
          have v0 : w6.cell? ⟨b, o + j * 2, none⟩ = some (.slice As ns cs) := (World.cell?_of_block (hb6.block b hbl)).trans v0
          have v1 : w6.cell? ⟨b, o + j * 2 + 1, none⟩ = some (.bool sk) := (World.cell?_of_block (hb6.block b hbl)).trans v1
          have hbl : b < w6.heap.size := by omega
          have HRS := Lib.hid (hrs.below hb6)
          have HO6 := Lib.hid ho6
          clear hrs ho6 hb6
          go_wp2_with fail
          refine (tell_any As ns cs sk xs _ HRS.out hns hxs).mono ?_
          intro e w7 hf7
          obtain ⟨g7, rfl, hg71, hg72, ho7, hb7⟩ := hf7
          have hz7 := hb7.size
          have RT7 := Lib.hid (Rd.own (own_below HO6.out hb7))
          have HL7 := Lib.hid ho7
          have BR7 : Hid (Below wr.heap.size wr w7) := HB6.out.trans (hb7.mono (by omega))
          have HM7 := Lib.hid (HMO.out.below (hb.out.trans (BR7.out.mono (by omega))))
          have HTO := Lib.hid (tell_ok xs)
          have HTN := Lib.hid (tell_len xs)
          generalize tellF xs = TF at *
          clear HO6 HRS HB6 ho7 hb7 v0 v1 hxs hns
          go_upto_if 116 with fail
          go_cut [25] from 98 to 204 (fun _ wc => ∃ LF, Hid (Rd wc 1 (some ⟨g6, 0, none⟩) 6 (ints TF)) ∧ Hid (Rd wc 1 (some ⟨g7, 0, none⟩) 6 (ints LF)) ∧ Hid (louder TF LF) ∧ Hid (toldB LF = false) ∧ Hid (Below wr.heap.size wr wc) ∧ g7 < wc.heap.size)
          case first =>
            by_cases hml : 0 < ml
            · obtain ⟨bm, om, rfl, hcm⟩ := rd_at HM7.out hml
              have hq : j % ml < ml := Nat.mod_lt _ hml
              have hcq := hcm (j % ml) hq
              have ht : (j : Int).tmod (ml : Int) = ((j % ml : Nat) : Int) := by rw [Int.tmod_eq_emod_of_nonneg (by omega)]; rfl
              have hmv := HMX.out (ms.getD (j % ml) 0) (by rw [List.getD_eq_getElem?_getD, List.getElem?_eq_getElem (by rw [HML.out]; exact hq)]; exact List.getElem_mem _)
              have hr : (j : Int).tmod 2 = ((j % 2 : Nat) : Int) := by rw [Int.tmod_eq_emod_of_nonneg (by omega)]; rfl
              have hr2 : j % 2 < 2 := Nat.mod_lt _ (by omega)
              generalize j % 2 = r at *
              generalize j % ml = q at *
              generalize ms.getD q 0 = mv at *
              have hml0 : (0 : Int) < (ml : Int) := by omega
              have hq0 : (0 : Int) ≤ (q : Int) := by omega
              have hqm : (q : Int) < (ml : Int) := by omega
              clear hcm
              go_wp2_with fail
              refine (picked_any mv 12 _ hmv.1 hmv.2 (by omega) (by omega)).mono ?_
              rintro e w8 ⟨rfl, rfl⟩
              obtain ⟨p, hp⟩ : ∃ p : Nat, pickN mv 12 = p := ⟨(pickN mv 12).toNat, by have := pick_lt (n := mv) (m := 12) (by omega); omega⟩
              rw [hp]
              clear hp hmv hcq
              have hp0 : (0 : Int) ≤ (p : Int) := by omega
              by_cases hp6 : p < 6
              · have cl : w8.cell? ⟨g7, p, none⟩ = some (.int .i64 (TF.getD p 0)) := by
                  rw [HL7.out.cellAt p (by omega), List.getElem?_map, List.getElem?_eq_getElem (by rw [HTN.out]; exact hp6)]
                  simp [List.getD_eq_getElem?_getD, List.getElem?_eq_getElem (show p < TF.length by rw [HTN.out]; exact hp6)]
                have hp6' : (p : Int) < 6 := by omega
                by_cases hc : TF.getD p 0 = 0
                · rw [hc] at cl
                  have fz := HL7.out.frozenAt p
                  obtain ⟨g1, g2⟩ := HL7.out.stored p (.int .i64 (1 + (r : Int)))
                  rw [ints_set] at g1
                  have RT8 := Lib.hid (RT7.out.set (p := ⟨g7, p, none⟩) (fun a ha e => by injection ha with ha; subst ha; simp only at e; omega) (.int .i64 (1 + (r : Int))))
                  have RL8 := Lib.hid (Rd.own g1)
                  have LO8 : Hid (louder TF (TF.set p (1 + (r : Int)))) := louder_set (by rw [HTN.out]; exact hp6) (by omega)
                  have TO8 : Hid (toldB (TF.set p (1 + (r : Int))) = false) := told_set HTO.out (by omega)
                  have BR8 : Hid (Below wr.heap.size wr (w8.setCell ⟨g7, p, none⟩ (.int .i64 (1 + (r : Int))))) := BR7.out.setCell (p := ⟨g7, p, none⟩) (by simp only; omega) _
                  have hz8 : g7 < (w8.setCell ⟨g7, p, none⟩ (.int .i64 (1 + (r : Int)))).heap.size := by simpa using hg72
                  clear hc g1 g2
                  go_wp2_with fail
                  go_meet
                  exact ⟨_, RT8, RL8, LO8, TO8, BR8, hz8⟩
                · have hcb : (TF.getD p 0 == 0) = false := by simp only [beq_eq_false_iff_ne, ne_eq]; exact hc
                  have RL8 := Lib.hid (Rd.own HL7.out)
                  generalize TF.getD p 0 = tv at *
                  clear hc
                  go_wp2_with fail
                  go_meet
                  exact ⟨TF, RT7, RL8, louder_refl TF, HTO, BR7, hg72⟩
              · have hpb : decide ((p : Int) < 6) = false := decide_eq_false (by omega)
                have RL8 := Lib.hid (Rd.own HL7.out)
                clear hp6
                go_wp2_with fail
                go_meet
                exact ⟨TF, RT7, RL8, louder_refl TF, HTO, BR7, hg72⟩
            · have hmb : decide (0 < (ml : Int)) = false := decide_eq_false (by omega)
              have RL8 := Lib.hid (Rd.own HL7.out)
              go_wp2_with fail
              go_meet
              exact ⟨TF, RT7, RL8, louder_refl TF, HTO, BR7, hg72⟩
          case rest =>
            obtain ⟨LF, rt, rl, hlo, hto, br, hgc⟩ := hcut
            clear HL7 RT7 HM7 BR7
            have hrc := br.out.size
            have bt := Lib.hid (bt.out.below br.out)
            have bu := Lib.hid (bu.out.below br.out)
            have bv := Lib.hid (bv.out.below br.out)
            have hb := Lib.hid (hb.out.trans (br.out.mono (by omega)))
            have C1 := HSPg.out wc (HUO.out.below hb.out) td tf th TA tc hst.out bt.out.2.1 TF _ 6 rt.out HTO.out
            have C2' := fun W h A => HSPg.out W h ud uf uh UA uc hsu.out A LF
            have C3' := fun W h A => HSPh.out W h td tf th VA vc hst.out A TF
            have SN := stands_next (d := d) (ps := ps) (T := ⟨td, tf, th, false⟩) (told := TF) (key := false) d0 (by rw [HKP.out]; exact hst.out)
            have SU := stands_next (d := d) (ps := ps) (T := ⟨ud, uf, uh, false⟩) (told := LF) (key := false) d0 (by rw [HKP.out]; exact hsu.out)
            have MN := more_next (ps := ps) d0 hlo.out hmo.out
            have DN := down_next (d := d) (ps := ps) (T := ⟨td, tf, th, false⟩) (told := TF)
            have KN := key_next (d := d) (ps := ps) (T := ⟨td, tf, th, false⟩) (told := TF) (key := false)
            have KU := key_next (d := d) (ps := ps) (T := ⟨ud, uf, uh, false⟩) (told := LF) (key := false)
            rw [HKP.out] at SN SU
            generalize nextF d ps ⟨td, tf, th, false⟩ TF false = NT at *
            generalize nextF d ps ⟨ud, uf, uh, false⟩ LF false = NU at *
            obtain ⟨nd, nf, nh, nk⟩ := NT
            obtain ⟨pd, pf, ph, pk⟩ := NU
            simp only at KN KU DN
            subst KN KU
            have SN := Lib.hid SN
            have SU := Lib.hid SU
            have DD := Lib.hid MN.down
            have MN := Lib.hid MN
            have DN := Lib.hid DN
            have C2 := Lib.hid C2'
            have C3 := Lib.hid C3'
            have cg := (KGO.out.below hb.out).cell
            have ct := bt.out.1.cell
            have hw1c : w1.heap.size < wc.heap.size := by omega
            have hw3c : w3.heap.size < wc.heap.size := by omega
            clear C2' C3' hst hsu hmo hlo
            go_wp2_with fail
            refine C1.mono ?_
            intro e w8 h8
            obtain ⟨A8, c8, rfl, r8, hA8, hb8⟩ := stepV h8
            have hz8 := hb8.size
            have kt8 := bt.out.1.below hb8
            have ct := kt8.cell
            have ft := kt8.frozen
            have BW8 : Hid (Below wo.heap.size wo ((((w8.setCell ⟨w3.heap.size, 0, none⟩ (.bool nd)).setCell ⟨w3.heap.size, 1, none⟩ (.int .i64 nf)).setCell ⟨w3.heap.size, 2, none⟩ (.slice A8 i c8)).setCell ⟨w3.heap.size, 3, none⟩ (.bool false))) := below4 (hb.out.trans (hb8.mono (by omega))) (by omega) _ _ _ _
            have BT8 : Hid (Bx w3.heap.size w4.heap.size w5.heap.size w3.heap.size i nd nf nh A8 c8 ((((w8.setCell ⟨w3.heap.size, 0, none⟩ (.bool nd)).setCell ⟨w3.heap.size, 1, none⟩ (.int .i64 nf)).setCell ⟨w3.heap.size, 2, none⟩ (.slice A8 i c8)).setCell ⟨w3.heap.size, 3, none⟩ (.bool false))) := Bx.put (.inl rfl) kt8 r8 (fun a ha => by have := hA8 a ha; omega)
            have BU8 : Hid (Bx w3.heap.size w4.heap.size w5.heap.size w4.heap.size i ud uf uh UA uc ((((w8.setCell ⟨w3.heap.size, 0, none⟩ (.bool nd)).setCell ⟨w3.heap.size, 1, none⟩ (.int .i64 nf)).setCell ⟨w3.heap.size, 2, none⟩ (.slice A8 i c8)).setCell ⟨w3.heap.size, 3, none⟩ (.bool false))) := (bu.out.below hb8).far (.inl rfl) (by omega) _ _ _ _
            have BV8 : Hid (Bx w3.heap.size w4.heap.size w5.heap.size w5.heap.size i td tf th VA vc ((((w8.setCell ⟨w3.heap.size, 0, none⟩ (.bool nd)).setCell ⟨w3.heap.size, 1, none⟩ (.int .i64 nf)).setCell ⟨w3.heap.size, 2, none⟩ (.slice A8 i c8)).setCell ⟨w3.heap.size, 3, none⟩ (.bool false))) := (bv.out.below hb8).far (.inl rfl) (by omega) _ _ _ _
            have RT8 : Hid (Rd ((((w8.setCell ⟨w3.heap.size, 0, none⟩ (.bool nd)).setCell ⟨w3.heap.size, 1, none⟩ (.int .i64 nf)).setCell ⟨w3.heap.size, 2, none⟩ (.slice A8 i c8)).setCell ⟨w3.heap.size, 3, none⟩ (.bool false)) 1 (some ⟨g6, 0, none⟩) 6 (ints TF)) := rd4 (rt.out.below hb8) (fun a ha => by injection ha with ha; subst ha; simp only; omega) _ _ _ _
            have RL8 : Hid (Rd ((((w8.setCell ⟨w3.heap.size, 0, none⟩ (.bool nd)).setCell ⟨w3.heap.size, 1, none⟩ (.int .i64 nf)).setCell ⟨w3.heap.size, 2, none⟩ (.slice A8 i c8)).setCell ⟨w3.heap.size, 3, none⟩ (.bool false)) 1 (some ⟨g7, 0, none⟩) 6 (ints LF)) := rd4 (rl.out.below hb8) (fun a ha => by injection ha with ha; subst ha; simp only; omega) _ _ _ _
            have sz8 : ((((w8.setCell ⟨w3.heap.size, 0, none⟩ (.bool nd)).setCell ⟨w3.heap.size, 1, none⟩ (.int .i64 nf)).setCell ⟨w3.heap.size, 2, none⟩ (.slice A8 i c8)).setCell ⟨w3.heap.size, 3, none⟩ (.bool false)).heap.size = w8.heap.size := size4 _ _ _ _
            have cg := (KGO.out.below BW8.out).cell
            have cu := BU8.out.1.cell
            have hw3c : w3.heap.size < w8.heap.size := by omega
            clear kt8 r8 hb8 h8 C1 hA8 bt bu bv hb rt rl br
            go_wp2_with fail
            generalize ((((w8.setCell ⟨w3.heap.size, 0, none⟩ (.bool nd)).setCell ⟨w3.heap.size, 1, none⟩ (.int .i64 nf)).setCell ⟨w3.heap.size, 2, none⟩ (.slice A8 i c8)).setCell ⟨w3.heap.size, 3, none⟩ (.bool false)) = Y8 at *
            refine (C2.out Y8 (HUO.out.below BW8.out) BU8.out.2.1 _ 6 RL8.out hto.out).mono ?_
            intro e w9 h9
            obtain ⟨A9, c9, rfl, r9, hA9, hb9⟩ := stepV h9
            have hz9 := hb9.size
            have ku9 := BU8.out.1.below hb9
            have cu := ku9.cell
            have fu := ku9.frozen
            have BW9 : Hid (Below wo.heap.size wo ((((w9.setCell ⟨w4.heap.size, 0, none⟩ (.bool pd)).setCell ⟨w4.heap.size, 1, none⟩ (.int .i64 pf)).setCell ⟨w4.heap.size, 2, none⟩ (.slice A9 i c9)).setCell ⟨w4.heap.size, 3, none⟩ (.bool false))) := below4 (BW8.out.trans (hb9.mono (by omega))) (by omega) _ _ _ _
            have BU9 : Hid (Bx w3.heap.size w4.heap.size w5.heap.size w4.heap.size i pd pf ph A9 c9 ((((w9.setCell ⟨w4.heap.size, 0, none⟩ (.bool pd)).setCell ⟨w4.heap.size, 1, none⟩ (.int .i64 pf)).setCell ⟨w4.heap.size, 2, none⟩ (.slice A9 i c9)).setCell ⟨w4.heap.size, 3, none⟩ (.bool false))) := Bx.put (.inr (.inl rfl)) ku9 r9 (fun a ha => by have := hA9 a ha; omega)
            have BT9 : Hid (Bx w3.heap.size w4.heap.size w5.heap.size w3.heap.size i nd nf nh A8 c8 ((((w9.setCell ⟨w4.heap.size, 0, none⟩ (.bool pd)).setCell ⟨w4.heap.size, 1, none⟩ (.int .i64 pf)).setCell ⟨w4.heap.size, 2, none⟩ (.slice A9 i c9)).setCell ⟨w4.heap.size, 3, none⟩ (.bool false))) := (BT8.out.below hb9).far (.inr (.inl rfl)) (by omega) _ _ _ _
            have BV9 : Hid (Bx w3.heap.size w4.heap.size w5.heap.size w5.heap.size i td tf th VA vc ((((w9.setCell ⟨w4.heap.size, 0, none⟩ (.bool pd)).setCell ⟨w4.heap.size, 1, none⟩ (.int .i64 pf)).setCell ⟨w4.heap.size, 2, none⟩ (.slice A9 i c9)).setCell ⟨w4.heap.size, 3, none⟩ (.bool false))) := (BV8.out.below hb9).far (.inr (.inl rfl)) (by omega) _ _ _ _
            have RT9 : Hid (Rd ((((w9.setCell ⟨w4.heap.size, 0, none⟩ (.bool pd)).setCell ⟨w4.heap.size, 1, none⟩ (.int .i64 pf)).setCell ⟨w4.heap.size, 2, none⟩ (.slice A9 i c9)).setCell ⟨w4.heap.size, 3, none⟩ (.bool false)) 1 (some ⟨g6, 0, none⟩) 6 (ints TF)) := rd4 (RT8.out.below hb9) (fun a ha => by injection ha with ha; subst ha; simp only; omega) _ _ _ _
            have sz9 : ((((w9.setCell ⟨w4.heap.size, 0, none⟩ (.bool pd)).setCell ⟨w4.heap.size, 1, none⟩ (.int .i64 pf)).setCell ⟨w4.heap.size, 2, none⟩ (.slice A9 i c9)).setCell ⟨w4.heap.size, 3, none⟩ (.bool false)).heap.size = w9.heap.size := size4 _ _ _ _
            have cg := (KHO.out.below BW9.out).cell
            have cv := BV9.out.1.cell
            have hw4c : w4.heap.size < w9.heap.size := by omega
            clear ku9 r9 hb9 h9 C2 hA9 BT8 BU8 BV8 RT8 RL8 BW8 ct ft
            go_wp2_with fail
            generalize ((((w9.setCell ⟨w4.heap.size, 0, none⟩ (.bool pd)).setCell ⟨w4.heap.size, 1, none⟩ (.int .i64 pf)).setCell ⟨w4.heap.size, 2, none⟩ (.slice A9 i c9)).setCell ⟨w4.heap.size, 3, none⟩ (.bool false)) = Y9 at *
            refine (C3.out Y9 (HVR.out.below BW9.out) BV9.out.2.1 _ 6 RT9.out HTO.out).mono ?_
            intro e w10 h10
            obtain ⟨A10, c10, rfl, r10, hA10, hb10⟩ := stepV h10
            have hz10 := hb10.size
            have kv10 := BV9.out.1.below hb10
            have cv := kv10.cell
            have fv := kv10.frozen
            have BW10 : Hid (Below wo.heap.size wo ((((w10.setCell ⟨w5.heap.size, 0, none⟩ (.bool nd)).setCell ⟨w5.heap.size, 1, none⟩ (.int .i64 nf)).setCell ⟨w5.heap.size, 2, none⟩ (.slice A10 i c10)).setCell ⟨w5.heap.size, 3, none⟩ (.bool false))) := below4 (BW9.out.trans (hb10.mono (by omega))) (by omega) _ _ _ _
            have BV10 : Hid (Bx w3.heap.size w4.heap.size w5.heap.size w5.heap.size i nd nf nh A10 c10 ((((w10.setCell ⟨w5.heap.size, 0, none⟩ (.bool nd)).setCell ⟨w5.heap.size, 1, none⟩ (.int .i64 nf)).setCell ⟨w5.heap.size, 2, none⟩ (.slice A10 i c10)).setCell ⟨w5.heap.size, 3, none⟩ (.bool false))) := Bx.put (.inr (.inr rfl)) kv10 r10 (fun a ha => by have := hA10 a ha; omega)
            have BT10 : Hid (Bx w3.heap.size w4.heap.size w5.heap.size w3.heap.size i nd nf nh A8 c8 ((((w10.setCell ⟨w5.heap.size, 0, none⟩ (.bool nd)).setCell ⟨w5.heap.size, 1, none⟩ (.int .i64 nf)).setCell ⟨w5.heap.size, 2, none⟩ (.slice A10 i c10)).setCell ⟨w5.heap.size, 3, none⟩ (.bool false))) := (BT9.out.below hb10).far (.inr (.inr rfl)) (by omega) _ _ _ _
            have BU10 : Hid (Bx w3.heap.size w4.heap.size w5.heap.size w4.heap.size i pd pf ph A9 c9 ((((w10.setCell ⟨w5.heap.size, 0, none⟩ (.bool nd)).setCell ⟨w5.heap.size, 1, none⟩ (.int .i64 nf)).setCell ⟨w5.heap.size, 2, none⟩ (.slice A10 i c10)).setCell ⟨w5.heap.size, 3, none⟩ (.bool false))) := (BU9.out.below hb10).far (.inr (.inr rfl)) (by omega) _ _ _ _
            have sz10 : ((((w10.setCell ⟨w5.heap.size, 0, none⟩ (.bool nd)).setCell ⟨w5.heap.size, 1, none⟩ (.int .i64 nf)).setCell ⟨w5.heap.size, 2, none⟩ (.slice A10 i c10)).setCell ⟨w5.heap.size, 3, none⟩ (.bool false)).heap.size = w10.heap.size := size4 _ _ _ _
            have ct := BT10.out.1.cell
            have cu := BU10.out.1.cell
            have cv' := BV10.out.1.cell
            have hw5c : w5.heap.size < w10.heap.size := by omega
            have hnn : (nf != nf) = false := by simp
            clear kv10 r10 hb10 h10 C3 hA10 BT9 BU9 BV9 RT9 BW9 cg fu
            cases td
            · cases nd
              · cases pd
                · go_wp2_with fail
                  go_roundw
                  case rel => exact ⟨j + 1, _, _, nf, pf, nh, ph, A8, A9, A10, c8, c9, c10, by omega, rfl, rfl, rfl, rfl, by go_num, SN, SU, MN, BT10, BU10, BV10, BW10, by omega⟩
                  case measure => simp [intOf]; omega
                · go_wp2_with fail
                  go_roundw
                  case rel => exact ⟨j + 1, _, _, nf, pf, nh, ph, A8, A9, A10, c8, c9, c10, by omega, rfl, rfl, rfl, rfl, by go_num, SN, SU, MN, BT10, BU10, BV10, BW10, by omega⟩
                  case measure => simp [intOf]; omega
              · cases pd
                · exact absurd (DD.out rfl) (by simp)
                · go_wp2_with fail
                  go_roundw
                  case rel => exact ⟨j + 1, _, _, nf, pf, nh, ph, A8, A9, A10, c8, c9, c10, by omega, rfl, rfl, rfl, rfl, by go_num, SN, SU, MN, BT10, BU10, BV10, BW10, by omega⟩
                  case measure => simp [intOf]; omega
            · cases nd
              · exact absurd (DN.out rfl) (by simp)
              · cases pd
                · exact absurd (DD.out rfl) (by simp)
                · go_wp2_with fail
                  go_roundw
                  case rel => exact ⟨j + 1, _, _, nf, pf, nh, ph, A8, A9, A10, c8, c9, c10, by omega, rfl, rfl, rfl, rfl, by go_num, SN, SU, MN, BT10, BU10, BV10, BW10, by omega⟩
                  case measure => simp [intOf]; omega
        · clear bu bv hsu hmo
          have HUP : Hid (Up d 0 ⟨td, tf, th, false⟩) := up_first d0 hK1 hst.out
          obtain ⟨qs, hqs⟩ := HFST.out
          have HUN : Hid (∀ (k : Nat) (T : TR), Up d k T → Up d (k + 1) (nextF d ps T loudest false)) := fun k T h => by rw [hqs]; exact up_next h
          clear hqs HFST
          go_wp2
          go_loopw [16, 26] (fun ev kv wr => ∃ (k : Nat) (td : Bool) (tf : Int) (th : List Int) (TA : Option Addr) (tc : Nat), (k : Int) ≤ d + 1 ∧ ev = .int .i64 0 ∧ kv = .int .i64 k ∧ Hid (standsB d i ⟨td, tf, th, false⟩ = true) ∧ Hid (Up d k ⟨td, tf, th, false⟩) ∧ Hid (Bx w3.heap.size w4.heap.size w5.heap.size w3.heap.size i td tf th TA tc wr) ∧ Hid (Below wo.heap.size wo wr) ∧ w5.heap.size < wr.heap.size) (fun _ kv _ => (d + 1 - intOf kv).toNat)
          case atStart => exact ⟨0, td, tf, th, TA, tc, by omega, rfl, rfl, hst, HUP, bt, hb, by omega⟩
          case round =>
            clear HUP hst bt hb
            obtain ⟨k, td, tf, th, TA, tc, hk, rfl, rfl, hst, hup, bt, hb, hwr⟩ := hrel
            have cg := (KGO.out.below hb.out).cell
            have ct := bt.out.1.cell
            have hw1c : w1.heap.size < wr.heap.size := by have := hb.out.size; omega
            have hk0 : (0 : Int) ≤ (k : Int) := by omega
            by_cases hkd : (k : Int) ≤ d
            · have SN := stands_next (d := d) (ps := ps) (T := ⟨td, tf, th, false⟩) (told := loudest) (key := false) d0 (by rw [HKP.out]; exact hst.out)
              have KN := key_next (d := d) (ps := ps) (T := ⟨td, tf, th, false⟩) (told := loudest) (key := false)
              have UN := HUN.out k _ hup.out
              have C1 := fun W h A => HSPg.out W h td tf th TA tc hst.out A loudest
              rw [HKP.out] at SN
              generalize nextF d ps ⟨td, tf, th, false⟩ loudest false = NT at *
              obtain ⟨nd, nf, nh, nk⟩ := NT
              simp only at KN
              subst KN
              have SN := Lib.hid SN
              have UN := Lib.hid UN
              have C1 := Lib.hid C1
              have BA := Lib.hid (below_alloc (w := wr) (.cells #[.int .i64 1, .int .i64 1, .int .i64 2, .int .i64 0, .int .i64 0, .int .i64 0] 3))
              have RS := Lib.hid (rd_six wr)
              clear hst hup
              go_wp2_with fail
              generalize wr.alloc (.cells #[.int .i64 1, .int .i64 1, .int .i64 2, .int .i64 0, .int .i64 0, .int .i64 0] 3) = Wl at *
              have hb' := Lib.hid (hb.out.trans (BA.out.mono (by have := hb.out.size; omega)))
              have bt' := Lib.hid (bt.out.below BA.out)
              have hzl := BA.out.size
              refine (C1.out Wl (HUO.out.below hb'.out) bt'.out.2.1 _ 6 RS.out loud_told).mono ?_
              intro e w8 h8
              obtain ⟨A8, c8, rfl, r8, hA8, hb8⟩ := stepV h8
              have hz8 := hb8.size
              have kt8 := bt'.out.1.below hb8
              have ct := kt8.cell
              have ft := kt8.frozen
              have BW8 : Hid (Below wo.heap.size wo ((((w8.setCell ⟨w3.heap.size, 0, none⟩ (.bool nd)).setCell ⟨w3.heap.size, 1, none⟩ (.int .i64 nf)).setCell ⟨w3.heap.size, 2, none⟩ (.slice A8 i c8)).setCell ⟨w3.heap.size, 3, none⟩ (.bool false))) := below4 (hb'.out.trans (hb8.mono (by have := hb'.out.size; omega))) (by omega) _ _ _ _
              have BT8 : Hid (Bx w3.heap.size w4.heap.size w5.heap.size w3.heap.size i nd nf nh A8 c8 ((((w8.setCell ⟨w3.heap.size, 0, none⟩ (.bool nd)).setCell ⟨w3.heap.size, 1, none⟩ (.int .i64 nf)).setCell ⟨w3.heap.size, 2, none⟩ (.slice A8 i c8)).setCell ⟨w3.heap.size, 3, none⟩ (.bool false))) := Bx.put (.inl rfl) kt8 r8 (fun a ha => by have := hA8 a ha; omega)
              have hw3c : w3.heap.size < w8.heap.size := by omega
              have hw3d : w5.heap.size < ((((w8.setCell ⟨w3.heap.size, 0, none⟩ (.bool nd)).setCell ⟨w3.heap.size, 1, none⟩ (.int .i64 nf)).setCell ⟨w3.heap.size, 2, none⟩ (.slice A8 i c8)).setCell ⟨w3.heap.size, 3, none⟩ (.bool false)).heap.size := by rw [size4]; omega
              clear kt8 r8 hb8 h8 C1 hA8 bt hb bt' hb' cg
              go_wp2
              go_roundw
              case rel => exact ⟨k + 1, nd, nf, nh, A8, c8, by omega, rfl, by go_num, SN, UN, BT8, BW8, hw3d⟩
              case measure => simp [intOf]; omega
            · have htd : td = true := up_all hup.out (by omega)
              subst htd
              have hkb : decide ((k : Int) ≤ d) = false := decide_eq_false hkd
              go_wp2
              go_ret
              exact ⟨rfl, BWO.out.trans (hb.out.mono BWO.out.size)⟩
end Go.Proofs.Ytdofkakbfolpkaa.Sf
