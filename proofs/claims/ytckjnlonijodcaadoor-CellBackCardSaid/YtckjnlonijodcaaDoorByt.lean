/-
  Bytes: a slice of bytes as a string; sameBytes, spoil. Conditions: the bytes read; for spoil: they lie in a row of the caller's own.
-/
import Derived.Test.YtckjnlonijodcaaDoorInts
import Derived.Laws.BytesArg
import Derived.Deep.QuietTactic
import Derived.BigQuiet
import Derived.Laws.BitsAllLaws
import Derived.Outline
namespace Go.Proofs.YtckjnlonijodcaaDoor.Byt
open Go.RowKit Go.Proofs.YtckjnlonijodcaaDoor.W Go.Proofs.YtckjnlonijodcaaDoor.Ints

theorem u8_info : (Tryd.prog.info? 5).map (fun i => (i.zero, i.size, i.bytes)) = some (some (.int .u8 0), 1, 1) := by kernel_rfl
abbrev byts (bs : List UInt8) : List Value := bs.map fun b => .int .u8 (b.toNat : Int)
/-- a block that is known whole, as a slice -/
theorem rd_blk {w : World} {g : Nat} {t : TypeId} {cs : Array Value} (h : Blk w g t cs) {us : List Value} {n : Nat} (hu : cs.toList = us) (hn : us.length = n) : Rd w 1 (some ⟨g, 0, none⟩) n us := by
  refine ⟨by omega, fun _ => ⟨g, 0, rfl, fun j u hj => ?_⟩⟩
  rw [Nat.zero_add, h.cell, ← hj, ← hu]
  simp
theorem brd_len {w : World} {A : Option Addr} {n : Nat} {bs : List UInt8} (h : Rd w 1 A n (byts bs)) : bs.length = n := by simpa using h.1
theorem brd_at {w : World} {A : Option Addr} {n : Nat} {bs : List UInt8} (h : Rd w 1 A n (byts bs)) (hn : 0 < n) :
    ∃ b o, A = some ⟨b, o, none⟩ ∧ ∀ j, j < n → w.cell? ⟨b, o + j, none⟩ = some (.int .u8 ((bs.getD j 0).toNat : Int)) := by
  obtain ⟨b, o, e, hc⟩ := h.2 hn
  refine ⟨b, o, e, fun j hj => hc j _ ?_⟩
  have hl := brd_len h
  simp [List.getElem?_map, List.getD_eq_getElem?_getD, List.getElem?_eq_getElem (show j < bs.length by omega)]

abbrev strB (bs : List UInt8) : ByteArray := ⟨bs.toArray⟩
theorem strOf (bs : List UInt8) : strOfNums (bs.map fun b => (b.toNat : Int)) = strB bs := by
  unfold strOfNums strB
  congr 2
  rw [List.map_map]
  conv => rhs; rw [← List.map_id bs]
  apply List.map_congr_left
  intro x _
  simp

theorem conv_bytes {P : Program} {w : World} {A : Option Addr} {n : Nat} {bs : List UInt8} (h : Rd w 1 A n (byts bs)) (c : Nat) (src e dst : TypeId) (hs : P.underlying src = some (.slice e)) (he : P.underlying e = some (.int .u8)) (hd : P.underlying dst = some .string) :
    (convert src dst (.slice A n c)).run P w = .ok (.string (strB bs)) w := by
  have hl := brd_len h
  rcases Nat.eq_zero_or_pos n with h0 | h0
  · subst h0
    have hb : bs = [] := List.eq_nil_of_length_eq_zero hl
    subst hb
    rw [run_convert_bytes_string w src dst e _ 0 c hs he hd]
    cases A <;> simp [Conv.bytesToString, loadCells]
    all_goals rfl
  · obtain ⟨b, o, rfl, hc⟩ := brd_at h h0
    rw [run_convert_bytes_arg (P := P) w src e hs he b o n c (bs.map fun b => (b.toNat : Int)) (by simp [hl]) (fun i hi => by
      rw [hc i hi]
      simp [List.getD_eq_getElem?_getD, List.getElem?_eq_getElem (show i < bs.length by omega)]) dst hd, strOf]

end Go.Proofs.YtckjnlonijodcaaDoor.Byt
