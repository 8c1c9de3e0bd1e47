/-
  The walk of the law CodeVerify. Conditions: the code reads, within the reach; the variable that holds the length of the library's longest quick search reads.
-/
import Derived.Test.YtiogcbckhaknmaaDoorVfJ2
import Derived.Test.YtiogcbckhaknmaaDoorCod4
namespace Go.Proofs.YtiogcbckhaknmaaDoor.Vf
open Go.RowKit Go.Proofs.YtiogcbckhaknmaaDoor.W Go.Proofs.YtiogcbckhaknmaaDoor.Ints Go.Proofs.YtiogcbckhaknmaaDoor.Cod Go.Proofs.YtiogcbckhaknmaaDoor.Cell

theorem out_len {ps : List PD} {o : VO} (h : Out ps o) : o.bs.length ≤ 16 := by
  cases h with
  | all bs h hv => show bs.length ≤ 16; rw [hv.len]; exact h
  | _ => simp
set_option maxRecDepth 100000 in
set_option maxHeartbeats 25600000 in
theorem CodeVerify_law (A : Option Addr) (N c : Nat) (vs : List PV) (ps : List PD) (m : Int) (w : World) (hC : CRd w A N vs ps) (hok : ∀ p ∈ ps, p.ok) (hN : N * 96 ≤ 140737488351232) (hm : w.cell? ⟨0, 0, none⟩ = some (.int .i64 m)) :
    Calls Tryd.prog 3 #[.agg #[.slice A N c]] w fun e w' => e = .returned (.bool true) ∧ Below w.heap.size w w' := by
  have HM : Hid (∀ w', Below w.heap.size w w' → w'.cell? ⟨0, 0, none⟩ = some (.int .i64 m)) := Lib.hid fun w' h => (h.cell (lt_of_cell hm)).trans hm
  have HC := Lib.hid hC
  have HOK := Lib.hid hok
  have HLEN : Hid (ps.length = N) := hC.len
  clear hC hok hm
  go_enter Tryd.func3, Tryd.ntmps3
  go_upto_region 1 with fail
  have M0 := Lib.hid ((Mem.start w).alloc 24 #[.slice A N c])
  generalize World.alloc _ _ = w1 at M0 ⊢
  generalize w.heap.size = gb at M0 ⊢
  have x0 : w1.cell? ⟨gb, 0, none⟩ = some (.slice A N c) := M0.out.cellK 0 rfl 0
  go_wp2_with fail
  refine (VerifyR_any A N c vs ps w1 (HC.out.below M0.out.bel) HOK.out hN).mono ?_
  rintro e w2 ⟨o, hO, WB, wd, rfl, hm2⟩
  dsimp only
  have HOUT := Lib.hid hO
  have hol := out_len hO
  obtain ⟨on, hon⟩ : ∃ on, o.bs.length = on := ⟨_, rfl⟩
  rw [hon] at hm2 hol ⊢
  have HON := Lib.hid hon
  have M1 := Lib.hid (M0.out.join hm2)
  have M2 := Lib.hid ((M0.out.join hm2).alloc 28 #[.int .i64 o.code, .int .i64 o.unit, .int .i64 0])
  clear hO hm2 hon M0 x0
  go_upto_region 2 with fail
  generalize World.alloc _ _ = w3 at M2 ⊢
  generalize w2.heap.size = gf at M2 ⊢
  clear M1
  have x0 : w3.cell? ⟨gb, 0, none⟩ = some (.slice A N c) := M2.out.cellK 1 rfl 0
  go_wp2_with fail
  refine (copyCode_any A N c vs ps w3 (HC.out.below M2.out.bel) HOK.out hN).mono ?_
  rintro e w4 ⟨A', c', us, rfl, hb4, hCC⟩
  dsimp only
  have HCC := Lib.hid hCC
  have M3 := Lib.hid ((M2.out.below hb4).alloc 24 #[.slice A' N c'])
  have B45 := Lib.hid (below_alloc (w := w4) (.cells #[.slice A' N c'] 24))
  clear hb4 hCC M2 x0
  go_upto_region 3 with fail
  generalize World.alloc _ _ = w5 at M3 B45 ⊢
  generalize w4.heap.size = gh at M3 ⊢
  have CC5 := Lib.hid (HCC.out.below B45.out)
  clear HCC B45
  have y0 : w5.cell? ⟨gh, 0, none⟩ = some (.slice A' N c') := M3.out.cellK 0 rfl 0
  go_wp2_with fail
  refine (Verify_any A' N c' us ps m w5 CC5.out.rd HOK.out hN (HM.out _ M3.out.bel)).mono ?_
  rintro e w6 ⟨o6, hO, AA, ad, rfl, hm6⟩
  have ee := out_uniq HOUT.out hO
  subst ee
  dsimp only
  rw [HON.out] at hm6 ⊢
  clear hO y0
  have N1 := Lib.hid (hm6.alloc 28 #[.int .i64 o.code, .int .i64 o.unit, .int .i64 0])
  clear hm6
  go_upto_region 4 with fail
  generalize World.alloc _ _ = w7 at N1 ⊢
  generalize w6.heap.size = g1 at N1 ⊢
  have y0 : w7.cell? ⟨gh, 0, none⟩ = some (.slice A' N c') := (M3.out.below N1.out.bel).cellK 0 rfl 0
  go_wp2_with fail
  refine (Verify_any A' N c' us ps m w7 (CC5.out.rd.below N1.out.bel) HOK.out hN (HM.out _ (M3.out.below N1.out.bel).bel)).mono ?_
  rintro e w8 ⟨o8, hO, BB, bd, rfl, hm6⟩
  have ee := out_uniq HOUT.out hO
  subst ee
  dsimp only
  rw [HON.out] at hm6 ⊢
  clear hO y0
  have N2 := Lib.hid ((N1.out.join hm6).alloc 28 #[.int .i64 o.code, .int .i64 o.unit, .int .i64 0])
  clear hm6 N1
  go_upto_region 5 with fail
  generalize World.alloc _ _ = w9 at N2 ⊢
  generalize w8.heap.size = g2 at N2 ⊢
  have z0 : w9.cell? ⟨gf, 0, none⟩ = some (.int .i64 o.code) := (M3.out.below N2.out.bel).cellK 1 rfl 0
  have z1 : w9.cell? ⟨gf, 1, none⟩ = some (.int .i64 o.unit) := (M3.out.below N2.out.bel).cellK 1 rfl 1
  have z2 : w9.cell? ⟨gf, 2, none⟩ = some (.int .i64 0) := (M3.out.below N2.out.bel).cellK 1 rfl 2
  have p0 : w9.cell? ⟨g1, 0, none⟩ = some (.int .i64 o.code) := N2.out.cellK 1 rfl 0
  have p1 : w9.cell? ⟨g1, 1, none⟩ = some (.int .i64 o.unit) := N2.out.cellK 1 rfl 1
  have p2 : w9.cell? ⟨g1, 2, none⟩ = some (.int .i64 0) := N2.out.cellK 1 rfl 2
  have q0 : w9.cell? ⟨g2, 0, none⟩ = some (.int .i64 o.code) := N2.out.cellK 0 rfl 0
  have q1 : w9.cell? ⟨g2, 1, none⟩ = some (.int .i64 o.unit) := N2.out.cellK 0 rfl 1
  have q2 : w9.cell? ⟨g2, 2, none⟩ = some (.int .i64 0) := N2.out.cellK 0 rfl 2
  go_wp2_with fail
  refine (same_true AA WB on ad wd (natL o.bs) w9 (N2.out.rdO 1 rfl) ((M3.out.rdO 0 rfl).below N2.out.bel) (by unfold maxLen; omega)).mono ?_
  rintro e w10 ⟨rfl, q, rfl⟩
  dsimp only
  have N3 := Lib.hid (N2.out.drewN q)
  clear N2 z0 z1 z2 p0 p1 p2 q0 q1 q2
  generalize World.drewN _ q = w10 at N3 ⊢
  have y0 : w10.cell? ⟨gh, 0, none⟩ = some (.slice A' N c') := (M3.out.below N3.out.bel).cellK 0 rfl 0
  have x0 : w10.cell? ⟨gb, 0, none⟩ = some (.slice A N c) := (M3.out.below N3.out.bel).cellK 2 rfl 0
  go_wp2_with fail
  refine (sameCode_true A' A N c' c us vs ps w10 (CC5.out.rd.below N3.out.bel) (HC.out.below (M3.out.below N3.out.bel).bel) HOK.out hN).mono ?_
  rintro e w11 ⟨rfl, hb⟩
  dsimp only
  have N4 := Lib.hid (N3.out.below hb)
  clear hb N3 x0 y0
  have y0 : w11.cell? ⟨gh, 0, none⟩ = some (.slice A' N c') := (M3.out.below N4.out.bel).cellK 0 rfl 0
  go_wp2_with fail
  refine (spareCode_true _ A' N c' us ps w11 (CC5.out.below N4.out.bel) HOK.out hN).mono ?_
  rintro e w12 ⟨rfl, hb⟩
  dsimp only
  have N5 := Lib.hid (N4.out.below hb)
  clear hb N4 y0
  go_wp2_with fail
  have MU := Lib.hid (N5.out.upO 1 rfl)
  clear N5
  refine (over_any w5.heap.size AA on ad (-71) _ w12 (MU.out.rowO 0 rfl) MU.out.base (by omega)).mono ?_
  rintro e w13 ⟨rfl, hg⟩
  dsimp only
  have N6 := Lib.hid (MU.out.lose hg)
  clear MU hg
  go_wp2_with fail
  refine (same_true BB WB on bd wd (natL o.bs) w13 (N6.out.rdO 0 rfl) ((M3.out.rdO 0 rfl).below N6.out.bel) (by unfold maxLen; omega)).mono ?_
  rintro e w14 ⟨rfl, q, rfl⟩
  dsimp only
  have N7 := Lib.hid (N6.out.drewN q)
  clear N6
  generalize World.drewN _ q = w14 at N7 ⊢
  have y0 : w14.cell? ⟨gh, 0, none⟩ = some (.slice A' N c') := (M3.out.below N7.out.bel).cellK 0 rfl 0
  have x0 : w14.cell? ⟨gb, 0, none⟩ = some (.slice A N c) := (M3.out.below N7.out.bel).cellK 2 rfl 0
  go_wp2_with fail
  refine (sameCode_true A' A N c' c us vs ps w14 (CC5.out.rd.below N7.out.bel) (HC.out.below (M3.out.below N7.out.bel).bel) HOK.out hN).mono ?_
  rintro e w15 ⟨rfl, hb⟩
  dsimp only
  have N8 := Lib.hid (N7.out.below hb)
  clear hb N7 x0 y0
  have y0 : w15.cell? ⟨gh, 0, none⟩ = some (.slice A' N c') := (M3.out.below N8.out.bel).cellK 0 rfl 0
  go_wp2_with fail
  refine (spareCode_true _ A' N c' us ps w15 (CC5.out.below N8.out.bel) HOK.out hN).mono ?_
  rintro e w16 ⟨rfl, hb⟩
  dsimp only
  have N9 := Lib.hid (N8.out.below hb)
  clear hb N8 y0
  have BF := Lib.hid (M3.out.below N9.out.bel).bel
  go_wp2
  go_ret
  exact ⟨rfl, BF.out⟩
end Go.Proofs.YtiogcbckhaknmaaDoor.Vf
