/-
  The law BlockSteps at arguments that read. Conditions: as in the law's walk.
-/
import Derived.Test.YthgjjclmepfbpaaDoorBlkM1
import Derived.Test.YthgjjclmepfbpaaDoorBlkU
import Derived.Test.YthgjjclmepfbpaaDoorRecs
namespace Go.Proofs.YthgjjclmepfbpaaDoor.Blk
open Go.RowKit Go.Proofs.YthgjjclmepfbpaaDoor.W Go.Proofs.YthgjjclmepfbpaaDoor.Ints Go.Proofs.YthgjjclmepfbpaaDoor.Cell Go.Proofs.YthgjjclmepfbpaaDoor.Num

theorem call_in {H : Type} {enc : TypeId × Value → H} {w : World} {cs : List Value} (h : O.Op enc Tryd.prog w 36 cs) : ∃ x : CL, cs = x.cs ∧ x.ok w := by
  obtain ⟨hl, hf⟩ := h.struct Tryd.underlying36
  have hl2 : cs.length = 2 := hl.trans (by kernel_rfl)
  obtain ⟨c0, c1, rfl⟩ : ∃ c0 c1, cs = [c0, c1] := by
    cases cs with
    | nil => cases hl2
    | cons c0 r =>
      cases r with
      | nil => cases hl2
      | cons c1 r2 =>
        cases r2 with
        | nil => exact ⟨c0, c1, rfl⟩
        | cons _ _ => simp at hl2
  obtain ⟨A, n, c, zs, e0, hnc, hc, hr, hz, _⟩ := (hf 0 _ rfl).ints Tryd.underlying31 Tryd.underlying3 (by kernel_rfl) (by kernel_rfl)
  obtain ⟨x1, e1, h1, h1'⟩ := (hf 1 _ rfl).i64 Tryd.underlying3
  have k3 : Tryd.prog.cellsOf 3 = 1 := by kernel_rfl
  have k4 : Tryd.prog.cellsOf 31 = 1 := by kernel_rfl
  simp [k3, k4] at e0 e1
  subst e0 e1
  exact ⟨⟨A, n, c, x1⟩, rfl, ⟨h1, h1'⟩, (by omega : n * 8 ≤ 140737488351232), zs, hr, hz⟩
theorem calls_in {H : Type} {enc : TypeId × Value → H} {w : World} {B : Option Addr} {m d : Nat} (h : O.Op enc Tryd.prog w 32 [.slice B m d]) : ∃ xs : List CL, Rd w 2 B m (xs.flatMap CL.cs) ∧ (∀ x ∈ xs, x.ok w) ∧ m * 32 ≤ 140737488351232 := by
  obtain ⟨A', n', c', xs, e, hnc, hc, h3, h4, _⟩ := h.recs (bt := 32) CL.len (by omega) ⟨none, 0, 0, 0⟩ Tryd.underlying32 (by kernel_rfl) (by kernel_rfl) (fun cs h => call_in h)
  simp only [List.cons.injEq, Value.slice.injEq, and_true] at e
  obtain ⟨rfl, rfl, rfl⟩ := e
  exact ⟨xs, h3, h4, by omega⟩
theorem walk_Steps (H : Type) (enc : TypeId × Value → H) (w : World) (m : Int) (hm : w.cell? ⟨0, 0, none⟩ = some (.int .i64 m)) (s : ByteArray) (_hs : s.size ≤ reachBytes) (A : Option Addr) (n c : Nat) (ho : O.Op enc Tryd.prog w 31 [.slice A n c]) (B : Option Addr) (k d : Nat) (hp : O.Op enc Tryd.prog w 32 [.slice B k d]) :
    Calls Tryd.prog 4 #[.string s, .slice A n c, .slice B k d] w fun e w' => e = .returned (.bool true) ∧ Below w.heap.size w w' := by
  obtain ⟨xs, hr, hx, hn⟩ := ints_in ho
  obtain ⟨ys, hr2, hy, hn2⟩ := calls_in hp
  exact steps_law s A n c xs B k d ys w m hm hr hx hn hr2 hy hn2
end Go.Proofs.YthgjjclmepfbpaaDoor.Blk
