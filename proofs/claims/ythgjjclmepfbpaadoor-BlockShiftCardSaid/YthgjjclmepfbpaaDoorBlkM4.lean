/-
  The law BlockShift at arguments that read. Conditions: as in the law's walk.
-/
import Derived.Test.YthgjjclmepfbpaaDoorBlkM3
namespace Go.Proofs.YthgjjclmepfbpaaDoor.Blk
open Go.RowKit Go.Proofs.YthgjjclmepfbpaaDoor.W Go.Proofs.YthgjjclmepfbpaaDoor.Ints Go.Proofs.YthgjjclmepfbpaaDoor.Cell Go.Proofs.YthgjjclmepfbpaaDoor.Num

set_option maxRecDepth 100000 in
set_option maxHeartbeats 3200000 in
theorem shift_none {s : ByteArray} (h : ∀ b ∈ bts, ¬ s = b.nm) (B : Option Addr) (N d : Nat) (D : Int) (w : World) (m : Int) (hm : w.cell? ⟨0, 0, none⟩ = some (.int .i64 m)) :
    Calls Tryd.prog 5 #[.string s, .slice B N d, .int .i64 D] w fun e w' => e = .returned (.bool true) ∧ Below w.heap.size w w' := by
  have HSH := Lib.hid (fun w => shape_none h w)
  have HST : Hid (∀ w1 : World, w1.cell? ⟨0, 0, none⟩ = some (.int .i64 m) → Calls Tryd.prog 9 #[.string ⟨#[116, 111, 110]⟩] w1 fun e w' => ∃ A1 n1 c1 A2 n2 c2 A3 n3 c3, e = .returned (.tuple #[.agg #[.slice A1 n1 c1, .slice A2 n2 c2, .slice A3 n3 c3], .bool true]) ∧ Below w1.heap.size w1 w') := by
    intro w1 h1
    refine (shape_known (b := b_ton) (by simp [bts]) m w1 h1).mono ?_
    rintro e w' ⟨A1, c1, A2, c2, A3, c3, Ks, rfl, M⟩
    exact ⟨_, _, _, _, _, _, _, _, _, rfl, M.bel⟩
  have HM := Lib.hid (And.intro hm (lt_of_cell hm))
  clear h hm
  go_enter Tryd.func5, Tryd.ntmps5
  go_wp2_with fail
  refine (HSH.out w).mono ?_
  rintro e w1 ⟨rfl, hb1⟩
  dsimp only
  have M1 := Lib.hid (((Mem.start w).below hb1).alloc 24 #[.slice none 0 0, .slice none 0 0, .slice none 0 0])
  clear hb1
  go_upto_region 2 with fail
  generalize World.alloc _ _ = w2 at M1 ⊢
  generalize w1.heap.size = gx at M1 ⊢
  go_wp2_with fail
  refine (HST.out w2 ((M1.out.bel.cell HM.out.2).trans HM.out.1)).mono ?_
  rintro e w3 ⟨E1, k1, f1, E2, k2, f2, E3, k3, f3, rfl, hb3⟩
  dsimp only
  have M3 := Lib.hid (((M1.out.below hb3).alloc 24 #[.slice E1 k1 f1, .slice E2 k2 f2, .slice E3 k3 f3]).delK 0)
  clear hb3 M1
  go_wp2
  go_ret
  exact ⟨rfl, M3.out.bel⟩
theorem walk_Shift (H : Type) (enc : TypeId × Value → H) (w : World) (m : Int) (hm : w.cell? ⟨0, 0, none⟩ = some (.int .i64 m)) (s : ByteArray) (_hs : s.size ≤ reachBytes) (B : Option Addr) (k d : Nat) (hp : O.Op enc Tryd.prog w 32 [.slice B k d]) (D : Int) (_hD : (Lit.int .i64 D).wf = true) :
    Calls Tryd.prog 5 #[.string s, .slice B k d, .int .i64 D] w fun e w' => e = .returned (.bool true) ∧ Below w.heap.size w w' := by
  obtain ⟨ys, hr2, hy, hn2⟩ := calls_in hp
  by_cases h : ∃ b ∈ bts, s = b.nm
  · obtain ⟨b, hb, rfl⟩ := h
    exact shift_known hb B k d ys D w m hm hr2 hy hn2
  · exact shift_none (fun b hb e => h ⟨b, hb, e⟩) B k d D w m hm
end Go.Proofs.YthgjjclmepfbpaaDoor.Blk
