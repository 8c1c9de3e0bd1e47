/-
  Contracts of the statements' own helpers on slices of ints: sameInts, over. Conditions: the slices read as lists; for over: the slice owns its row.
-/
import Derived.Test.YtckjnlonijodcaaDoorRows
import Derived.Test.YtckjnlonijodcaaDoorW
import Derived.Deep.QuietTactic
import Derived.BigQuiet
namespace Go.Proofs.YtckjnlonijodcaaDoor.Ints
open Go.RowKit Go.Proofs.YtckjnlonijodcaaDoor.W

theorem int_info : (Tryd.prog.info? 3).map (fun i => (i.zero, i.size, i.bytes)) = some (some (.int .i64 0), 1, 8) := by kernel_rfl
abbrev ints (zs : List Int) : List Value := zs.map (Value.int .i64)
theorem ints_len (zs : List Int) : (ints zs).length = zs.length := by simp
theorem rd_len {w : World} {A : Option Addr} {n : Nat} {zs : List Int} (h : Rd w 1 A n (ints zs)) : zs.length = n := by simpa using h.1
theorem rd_at {w : World} {A : Option Addr} {n : Nat} {zs : List Int} (h : Rd w 1 A n (ints zs)) (hn : 0 < n) :
    ∃ b o, A = some ⟨b, o, none⟩ ∧ ∀ j, j < n → w.cell? ⟨b, o + j, none⟩ = some (.int .i64 (zs.getD j 0)) := by
  obtain ⟨b, o, e, hc⟩ := h.2 hn
  refine ⟨b, o, e, fun j hj => hc j _ ?_⟩
  have hl := rd_len h
  simp [List.getElem?_map, List.getD_eq_getElem?_getD, List.getElem?_eq_getElem (show j < zs.length by omega)]

theorem take_next {xs ys : List Int} {k : Nat} (hx : k < xs.length) (hy : k < ys.length) (h : xs.take k = ys.take k) (he : xs.getD k 0 = ys.getD k 0) : xs.take (k + 1) = ys.take (k + 1) := by
  rw [List.take_succ_eq_append_getElem hx, List.take_succ_eq_append_getElem hy, h]
  simp [List.getD_eq_getElem?_getD, List.getElem?_eq_getElem hx, List.getElem?_eq_getElem hy] at he
  rw [he]

end Go.Proofs.YtckjnlonijodcaaDoor.Ints
