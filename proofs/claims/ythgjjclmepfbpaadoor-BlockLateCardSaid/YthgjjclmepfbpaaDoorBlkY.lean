/-
  The law BlockLate at arguments that read. Conditions: as in the law's walk.
-/
import Derived.Test.YthgjjclmepfbpaaDoorBlkX
namespace Go.Proofs.YthgjjclmepfbpaaDoor.Blk
open Go.RowKit Go.Proofs.YthgjjclmepfbpaaDoor.W Go.Proofs.YthgjjclmepfbpaaDoor.Ints Go.Proofs.YthgjjclmepfbpaaDoor.Cell Go.Proofs.YthgjjclmepfbpaaDoor.Num

theorem wait_in {H : Type} {enc : TypeId × Value → H} {w : World} {cs : List Value} (h : O.Op enc Tryd.prog w 44 cs) : ∃ x : WT, cs = x.cs ∧ I64 x.len := by
  obtain ⟨hl, hf⟩ := h.struct Tryd.underlying44
  have hl2 : cs.length = 2 := hl.trans (by kernel_rfl)
  obtain ⟨c0, c1, rfl⟩ : ∃ c0 c1, cs = [c0, c1] := by
    cases cs with
    | nil => cases hl2
    | cons c0 r =>
      cases r with
      | nil => cases hl2
      | cons c1 r2 =>
        cases r2 with
        | nil => exact ⟨c0, c1, rfl⟩
        | cons _ _ => simp at hl2
  · obtain ⟨x0, e0⟩ := (hf 0 _ rfl).bool Tryd.underlying4
    obtain ⟨x1, e1, h1, h1'⟩ := (hf 1 _ rfl).i64 Tryd.underlying3
    have k3 : Tryd.prog.cellsOf 3 = 1 := by kernel_rfl
    have k4 : Tryd.prog.cellsOf 4 = 1 := by kernel_rfl
    simp [k3, k4] at e0 e1
    subst e0 e1
    exact ⟨⟨x0, x1⟩, rfl, h1, h1'⟩
theorem walk_Late (H : Type) (enc : TypeId × Value → H) (w : World) (m : Int) (hm : w.cell? ⟨0, 0, none⟩ = some (.int .i64 m)) (pt : Int) (hpt : (Lit.int .i64 pt).wf = true) (bg : Int) (hbg : (Lit.int .i64 bg).wf = true) (A : Option Addr) (n c : Nat) (ho : O.Op enc Tryd.prog w 42 [.slice A n c]) :
    Calls Tryd.prog 6 #[.int .i64 pt, .int .i64 bg, .slice A n c] w fun e w' => e = .returned (.bool true) ∧ Below w.heap.size w w' := by
  obtain ⟨A', n', c', xs, e, hnc, hc, h3, h4, _⟩ := ho.recs (bt := 16) WT.size (by omega) ⟨false, 0⟩ Tryd.underlying42 (by kernel_rfl) (by kernel_rfl) (fun cs h => wait_in h)
  simp only [List.cons.injEq, Value.slice.injEq, and_true] at e
  obtain ⟨rfl, rfl, rfl⟩ := e
  exact late_law pt bg A n c xs w m hm h3 h4 (by simpa [I64, Lit.wf, IntKind.min, IntKind.max, IntKind.signed, IntKind.bits] using hpt) (by simpa [I64, Lit.wf, IntKind.min, IntKind.max, IntKind.signed, IntKind.bits] using hbg) (by omega)
end Go.Proofs.YthgjjclmepfbpaaDoor.Blk
