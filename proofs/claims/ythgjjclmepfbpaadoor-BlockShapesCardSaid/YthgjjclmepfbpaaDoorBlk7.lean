/-
  The walk of the law BlockShapes. Conditions: the variable that holds the length of the library's longest quick search reads.
-/
import Derived.Test.YthgjjclmepfbpaaDoorBlk6
namespace Go.Proofs.YthgjjclmepfbpaaDoor.Blk
open Go.RowKit Go.Proofs.YthgjjclmepfbpaaDoor.W Go.Proofs.YthgjjclmepfbpaaDoor.Ints

set_option maxRecDepth 100000 in
set_option maxHeartbeats 12800000 in
theorem shapes_law (s : ByteArray) (w : World) (m : Int) (hm : w.cell? ⟨0, 0, none⟩ = some (.int .i64 m)) :
    Calls Tryd.prog 3 #[.string s] w fun e w' => e = .returned (.bool true) ∧ Below w.heap.size w w' := by
  obtain ⟨ok, l1, l2, l3, ⟨hl1, hl2, hl3⟩, hS, hR⟩ := shapes s
  have HS := Lib.hid hS
  have HR := Lib.hid hR
  have HM := Lib.hid (And.intro hm (lt_of_cell hm))
  obtain ⟨n1, hn1⟩ : ∃ n, l1.length = n := ⟨_, rfl⟩
  obtain ⟨n2, hn2⟩ : ∃ n, l2.length = n := ⟨_, rfl⟩
  obtain ⟨n3, hn3⟩ : ∃ n, l3.length = n := ⟨_, rfl⟩
  clear hm hS hR
  unfold ShapeC pinR at HS HR
  rw [hn1, hn2, hn3] at HS HR
  rw [hn1] at hl1
  rw [hn2] at hl2
  rw [hn3] at hl3
  clear hn1 hn2 hn3
  go_enter Tryd.func3, Tryd.ntmps3
  go_wp2_with fail
  refine (HR.out _ m HM.out.1).mono ?_
  rintro e w1 ⟨B1, d1, B2, d2, B3, d3, rfl, hm1⟩
  dsimp only
  have M1 := Lib.hid (hm1.alloc 24 #[.slice B1 n1 d1, .slice B2 n2 d2, .slice B3 n3 d3])
  clear hm1 HR
  go_wp2_with fail
  generalize World.alloc _ _ = w2 at M1 ⊢
  obtain ⟨p3, hp3⟩ : ∃ p, w1.heap.size = p := ⟨_, rfl⟩
  rw [hp3] at M1 ⊢
  clear hp3
  refine (HS.out _ m ((M1.out.bel.cell HM.out.2).trans HM.out.1)).mono ?_
  rintro e w3 ⟨A1, c1, A2, c2, A3, c3, rfl, hm2⟩
  dsimp only
  have M2 := Lib.hid ((M1.out.join hm2).alloc 24 #[.slice A1 n1 c1, .slice A2 n2 c2, .slice A3 n3 c3])
  clear hm2 M1
  go_wp2_with fail
  generalize World.alloc _ _ = w4 at M2 ⊢
  obtain ⟨p5, hp5⟩ : ∃ p, w3.heap.size = p := ⟨_, rfl⟩
  rw [hp5] at M2 ⊢
  clear hp5
  refine (HS.out _ m ((M2.out.bel.cell HM.out.2).trans HM.out.1)).mono ?_
  rintro e w5 ⟨D1, e1, D2, e2, D3, e3, rfl, hm3⟩
  dsimp only
  have M3 := Lib.hid ((M2.out.join hm3).alloc 24 #[.slice D1 n1 e1, .slice D2 n2 e2, .slice D3 n3 e3])
  clear hm3 M2
  go_upto_region 4 with fail
  generalize World.alloc _ _ = w6 at M3 ⊢
  obtain ⟨p7, hp7⟩ : ∃ p, w5.heap.size = p := ⟨_, rfl⟩
  rw [hp7] at M3 ⊢
  clear hp7
  have x7 := M3.out.cellK 0 rfl
  have x5 := M3.out.cellK 1 rfl
  have x3 := M3.out.cellK 2 rfl
  have hb : (ok == ok) = true := by simp
  go_wp2_with fail
  refine (sameShape_same A1 A2 A3 n1 n2 n3 c1 c2 c3 B1 B2 B3 d1 d2 d3 l1 l2 l3 _ (M3.out.rdO 3 rfl) (M3.out.rdO 4 rfl) (M3.out.rdO 5 rfl) (M3.out.rdO 6 rfl) (M3.out.rdO 7 rfl) (M3.out.rdO 8 rfl) (by omega) (by omega) (by omega)).mono ?_
  rintro e w7 ⟨rfl, hb7⟩
  dsimp only
  have M4 := Lib.hid ((M3.out.below hb7).upO 3 rfl)
  clear M3 hb7 x7 x5 x3
  have x5 := M4.out.cellK 1 rfl
  go_wp2_with fail
  refine (overPins_any w.heap.size A1 n1 c1 (pinV l1) _ (M4.out.rowO 0 rfl) M4.out.base (by omega)).mono ?_
  rintro e w8 ⟨rfl, hg8⟩
  dsimp only
  have M5 := Lib.hid ((M4.out.lose hg8).upO 3 rfl)
  clear M4 hg8 x5
  have x5 := M5.out.cellK 1 rfl
  go_wp2_with fail
  refine (overPins_any w.heap.size A2 n2 c2 (pinV l2) _ (M5.out.rowO 0 rfl) M5.out.base (by omega)).mono ?_
  rintro e w9 ⟨rfl, hg9⟩
  dsimp only
  have M6 := Lib.hid ((M5.out.lose hg9).upO 3 rfl)
  clear M5 hg9 x5
  have x5 := M6.out.cellK 1 rfl
  have x3 := M6.out.cellK 2 rfl
  go_wp2_with fail
  refine (samePins_same A3 n3 c3 B3 d3 l3 _ (M6.out.rdO 0 rfl) (M6.out.rdO 6 rfl) (by omega)).mono ?_
  rintro e w10 ⟨rfl, q, rfl⟩
  dsimp only
  have M7 := Lib.hid (M6.out.drewN q)
  clear M6 x5 x3
  generalize World.drewN _ q = w11 at M7 ⊢
  have x5 := M7.out.cellK 1 rfl
  go_wp2_with fail
  refine (overPins_any w.heap.size A3 n3 c3 (pinV l3) _ (M7.out.rowO 0 rfl) M7.out.base (by omega)).mono ?_
  rintro e w12 ⟨rfl, hg12⟩
  dsimp only
  have M8 := Lib.hid (M7.out.lose hg12)
  clear M7 hg12 x5
  go_wp2_with fail
  refine (HS.out _ m ((M8.out.bel.cell HM.out.2).trans HM.out.1)).mono ?_
  rintro e w13 ⟨E1, f1, E2, f2, E3, f3, rfl, hm4⟩
  dsimp only
  have M9 := Lib.hid ((M8.out.join hm4).alloc 24 #[.slice E1 n1 f1, .slice E2 n2 f2, .slice E3 n3 f3])
  clear hm4 M8
  go_upto_region 12 with fail
  generalize World.alloc _ _ = w14 at M9 ⊢
  obtain ⟨p9, hp9⟩ : ∃ p, w13.heap.size = p := ⟨_, rfl⟩
  rw [hp9] at M9 ⊢
  clear hp9
  have x9 := M9.out.cellK 0 rfl
  have x7 := M9.out.cellK 1 rfl
  have x3 := M9.out.cellK 3 rfl
  go_wp2_with fail
  refine (sameShape_same D1 D2 D3 n1 n2 n3 e1 e2 e3 B1 B2 B3 d1 d2 d3 l1 l2 l3 _ (M9.out.rdO 3 rfl) (M9.out.rdO 4 rfl) (M9.out.rdO 5 rfl) (M9.out.rdO 6 rfl) (M9.out.rdO 7 rfl) (M9.out.rdO 8 rfl) (by omega) (by omega) (by omega)).mono ?_
  rintro e w15 ⟨rfl, hb15⟩
  dsimp only
  have M10 := Lib.hid (M9.out.below hb15)
  clear M9 hb15 x9 x7 x3
  have x9 := M10.out.cellK 0 rfl
  have x3 := M10.out.cellK 3 rfl
  go_wp2_with fail
  refine (sameShape_same E1 E2 E3 n1 n2 n3 f1 f2 f3 B1 B2 B3 d1 d2 d3 l1 l2 l3 _ (M10.out.rdO 0 rfl) (M10.out.rdO 1 rfl) (M10.out.rdO 2 rfl) (M10.out.rdO 6 rfl) (M10.out.rdO 7 rfl) (M10.out.rdO 8 rfl) (by omega) (by omega) (by omega)).mono ?_
  rintro e w16 ⟨rfl, hb16⟩
  dsimp only
  have M11 := Lib.hid (M10.out.below hb16)
  clear M10 hb16 x9 x3
  go_wp2
  go_ret
  exact ⟨rfl, M11.out.bel⟩
theorem walk_Shapes (H : Type) (_enc : TypeId × Value → H) (w : World) (m : Int) (hm : w.cell? ⟨0, 0, none⟩ = some (.int .i64 m)) (s : ByteArray) (_hs : s.size ≤ reachBytes) :
    Calls Tryd.prog 3 #[.string s] w fun e w' => e = .returned (.bool true) ∧ Below w.heap.size w w' := shapes_law s w m hm
end Go.Proofs.YthgjjclmepfbpaaDoor.Blk
