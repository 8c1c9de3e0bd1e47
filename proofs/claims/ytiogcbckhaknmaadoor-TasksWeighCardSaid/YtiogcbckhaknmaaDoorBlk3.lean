/-
  Shape's walk: of any name. Conditions: the variable that holds the length of the library's longest quick search reads.
-/
import Derived.Test.YtiogcbckhaknmaaDoorBlk2
import Derived.BigRegion
import Derived.Deep.RegionHeld3
import Derived.Deep.CutBlock
import Derived.Deep.DeepCutAuto
namespace Go.Proofs.YtiogcbckhaknmaaDoor.Blk
open Go.RowKit Go.Proofs.YtiogcbckhaknmaaDoor.W Go.Proofs.YtiogcbckhaknmaaDoor.Ints

abbrev pinR (A : Option Addr) (c : Nat) (l : List PN) : Row := ⟨89, 2, A, l.length, c, pinV l⟩
theorem pins_mem {w0 w : World} {Ks : List Box} {Os : List Row} (s : ByteArray) (m : Int) (h : Hid (Mem w0 w Ks Os)) (hm : w0.cell? ⟨0, 0, none⟩ = some (.int .i64 m)) (hs : pinOkB s = true) :
    Calls Tryd.prog 52 #[.string s] w fun e w' => ∃ A c, e = .returned (.slice A (pinsL s).length c) ∧ Mem w0 w' Ks (pinR A c (pinsL s) :: Os) := by
  refine (pins_any s m w ((h.out.bel.cell (lt_of_cell hm)).trans hm) hs).mono ?_
  rintro e w1 ⟨v, rfl, A, c, rfl, ho, hb⟩
  exact ⟨A, c, rfl, h.out.made hb ho⟩
set_option maxRecDepth 100000 in
set_option maxHeartbeats 6400000 in
theorem shape_known {b : BT} (hb : b ∈ bts) (m : Int) (w : World) (hm : w.cell? ⟨0, 0, none⟩ = some (.int .i64 m)) :
    Calls Tryd.prog 48 #[.string b.nm] w fun e w' => ∃ A1 c1 A2 c2 A3 c3 Ks, e = .returned (.tuple #[.agg #[.slice A1 (pinsL b.ins).length c1, .slice A2 (pinsL b.outs).length c2, .slice A3 (pinsL b.st).length c3], .bool true]) ∧
      Mem w w' Ks [pinR A1 c1 (pinsL b.ins), pinR A2 c2 (pinsL b.outs), pinR A3 c3 (pinsL b.st)] := by
  have hok := List.all_eq_true.1 bts_ok b hb
  simp only [Bool.and_eq_true] at hok
  obtain ⟨⟨o1, o2⟩, o3⟩ := hok
  have HM := Lib.hid hm
  have HB := Lib.hid (fun w => made_known hb w)
  clear hm hb
  go_enter Tryd.func48, Tryd.ntmps48
  go_wp2_with fail
  refine (HB.out _).mono ?_
  rintro e w1 ⟨rfl, rfl⟩
  dsimp only [strs]
  clear HB
  go_upto_region 4 with fail
  have M := Lib.hid (((((Mem.start w).alloc 78 #[.slice none 0 0, .slice none 0 0, .slice none 0 0]).alloc 95 #[.string b.ins, .string b.outs, .string b.st]).alloc b.bx b.cs).alloc 95 #[.string b.ins, .string b.outs, .string b.st])
  simp only [World.size_alloc] at M
  generalize World.alloc _ _ = w2 at M ⊢
  have Mp := Lib.hid M.out.drew
  clear M
  have rp := Mp.out.frozenK 3 rfl
  have sp := Mp.out.cellK 3 rfl
  have t0 := Mp.out.cellK 0 rfl
  have qp : w2.drew.cell? ⟨w.heap.size + 1 + 1 + 1, 0, none⟩ = some (.string b.ins) ∧ w2.drew.cell? ⟨w.heap.size + 1 + 1 + 1, 1, none⟩ = some (.string b.outs) ∧ w2.drew.cell? ⟨w.heap.size + 1 + 1 + 1, 2, none⟩ = some (.string b.st) := ⟨t0 0, t0 1, t0 2⟩
  clear t0
  go_region_held3 (fun w' => w'.cell? ⟨w.heap.size + 1 + 1 + 1, 0, none⟩ = some (.string b.ins) ∧ w'.cell? ⟨w.heap.size + 1 + 1 + 1, 1, none⟩ = some (.string b.outs) ∧ w'.cell? ⟨w.heap.size + 1 + 1 + 1, 2, none⟩ = some (.string b.st))
    (first | with_reducible assumption | (refine ⟨?_, ?_, ?_⟩ <;> go_simp))
    ((go_at_call 52
      refine (pins_mem _ m Mp HM.out (by assumption)).mono ?_
      rintro e wp ⟨Ap, cp, rfl, hmp⟩
      dsimp only
      clear Mp rp sp qp
      have Mp := Lib.hid hmp
      have rp := hmp.frozenK 3 rfl
      have sp := hmp.cellK 3 rfl
      have qp : wp.cell? ⟨w.heap.size + 1 + 1 + 1, 0, none⟩ = some (.string b.ins) ∧ wp.cell? ⟨w.heap.size + 1 + 1 + 1, 1, none⟩ = some (.string b.outs) ∧ wp.cell? ⟨w.heap.size + 1 + 1 + 1, 2, none⟩ = some (.string b.st) :=
        ⟨hmp.cellK 0 rfl 0, hmp.cellK 0 rfl 1, hmp.cellK 0 rfl 2⟩
      clear hmp))
  rename_i A3 c3 _ A4 c4 hS
  have MF := Lib.hid ((((Mp.out.upK 3 rfl).set (i := 0) (.slice A3 (pinsL b.ins).length c3)).set (i := 1) (.slice A4 (pinsL b.outs).length c4)).set (i := 2) (.slice Ap (pinsL b.st).length cp))
  generalize World.setCell (World.setCell (World.setCell _ _ _) _ _) _ _ = w6 at MF ⊢
  have sF := MF.out.cellK 0 rfl
  clear rp sp qp Mp hS
  go_wp2
  refine bodyPost_ret (v := .tuple #[.agg #[.slice A3 (pinsL b.ins).length c3, .slice A4 (pinsL b.outs).length c4, .slice Ap (pinsL b.st).length cp], .bool true]) ?_ rfl ?_
  · simp [results, Tryd.results48, go_sem, sF]
  · exact ⟨A3, c3, A4, c4, Ap, cp, _, rfl, (MF.out.upO 1 rfl).upO 2 rfl⟩
end Go.Proofs.YtiogcbckhaknmaaDoor.Blk
