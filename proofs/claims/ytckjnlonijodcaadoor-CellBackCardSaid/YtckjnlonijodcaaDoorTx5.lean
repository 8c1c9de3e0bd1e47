/-
  The reference's small letters: a text byte by byte. No conditions but that the text fits a machine.
-/
import Derived.Test.YtckjnlonijodcaaDoorTx4
import Derived.Laws.BytesArg
import Derived.Lib.BufferMore
import Derived.Lib.ConvBytes
import Derived.Lib.AtoiErrMem
import Derived.BigRegion
import Derived.Deep.QuietTactic
import Derived.BigQuiet
namespace Go.Proofs.YtckjnlonijodcaaDoor.Tx
open Go.RowKit Go.Proofs.YtckjnlonijodcaaDoor.W Go.Proofs.YtckjnlonijodcaaDoor.Num Go.Proofs.YtckjnlonijodcaaDoor.Cell

abbrev byts (bs : List UInt8) : List Value := bs.map fun b => .int .u8 (b.toNat : Int)
abbrev strB (bs : List UInt8) : ByteArray := ⟨bs.toArray⟩
theorem strOf (bs : List UInt8) : strOfNums (bs.map fun b => (b.toNat : Int)) = strB bs := by
  unfold strOfNums strB
  congr 2
  rw [List.map_map]
  conv => rhs; rw [← List.map_id bs]
  apply List.map_congr_left
  intro x _
  simp
theorem conv_cells {P : Program} {w : World} {g n c : Nat} {bs : List UInt8} (hl : bs.length = n) (hc : ∀ i, i < n → w.cell? ⟨g, i, none⟩ = some (.int .u8 ((bs.getD i 0).toNat : Int))) (src e dst : TypeId) (hs : P.underlying src = some (.slice e)) (he : P.underlying e = some (.int .u8)) (hd : P.underlying dst = some .string) :
    (convert src dst (.slice (some ⟨g, 0, none⟩) n c)).run P w = .ok (.string (strB bs)) w := by
  rw [run_convert_bytes_arg (P := P) w src e hs he g 0 n c (bs.map fun b => (b.toNat : Int)) (by simp [hl]) (fun i hi => by
    rw [Nat.zero_add, hc i hi]
    simp [List.getD_eq_getElem?_getD, List.getElem?_eq_getElem (show i < bs.length by omega)]) dst hd, strOf]
/-- the row of a text that is being rewritten -/
def LW (w0 w : World) (l : List UInt8) : Prop := ∃ (cs : Array Value) (m : Nat), w.heap[w0.heap.size]? = some (.cells cs 5 (cs.size, m)) ∧ l.length ≤ cs.size ∧ (∀ j, j < l.length → cs[j]? = some (.int .u8 ((l.getD j 0).toNat : Int))) ∧ Below w0.heap.size w0 w
theorem LW.start (w : World) (s : ByteArray) : LW w (Lib.bytesWorld w 5 s) s.data.toList := by
  refine ⟨_, _, Lib.bytesWorld_at_new w 5 s, by simp [Lib.bytesCells], fun j hj => ?_, Lib.bytesWorld_below w 5 s⟩
  have h := Lib.bytesWorld_cell w 5 s j (by rw [size_data] at hj; exact hj)
  rw [World.cell?, Lib.bytesWorld_at_new] at h
  simpa using h
section
variable {w0 w : World} {l : List UInt8}
theorem LW.cell (h : LW w0 w l) {j : Nat} (hj : j < l.length) : w.cell? ⟨w0.heap.size, j, none⟩ = some (.int .u8 ((l.getD j 0).toNat : Int)) := by
  obtain ⟨cs, m, h1, _, h3, _⟩ := h
  rw [cell_of_row w _ j cs _ _ h1]
  exact h3 j hj
theorem LW.free (h : LW w0 w l) {j : Nat} (hj : j < l.length) : w.frozen? ⟨w0.heap.size, j, none⟩ = false := by
  obtain ⟨cs, m, h1, h2, _, _⟩ := h
  simp [World.frozen?, h1]
  omega
theorem LW.set (h : LW w0 w l) {j : Nat} (hj : j < l.length) (c : UInt8) : LW w0 (w.setCell ⟨w0.heap.size, j, none⟩ (.int .u8 (c.toNat : Int))) (l.set j c) := by
  obtain ⟨cs, m, h1, h2, h3, h4⟩ := h
  refine ⟨cs.setIfInBounds j (.int .u8 (c.toNat : Int)), m, ?_, by simpa using h2, fun i hi => ?_, h4.setCell (Nat.le_refl _) _⟩
  · rw [Lib.heap_setCell_same h1, Array.size_setIfInBounds]
  · rw [List.length_set] at hi
    rw [Array.getElem?_setIfInBounds]
    by_cases e : j = i
    · subst e
      rw [if_pos rfl, if_pos (by omega)]
      simp [List.getD_eq_getElem?_getD, hj]
    · rw [if_neg e, h3 i hi]
      simp [List.getD_eq_getElem?_getD, e]
theorem LW.drewN (h : LW w0 w l) (n : Nat) : LW w0 (w.drewN n) l := by
  obtain ⟨cs, m, h1, h2, h3, h4⟩ := h
  exact ⟨cs, m, h1, h2, h3, ⟨h4.os, h4.tape, h4.output, h4.size, h4.block⟩⟩
end
/-- the first k letters made small -/
def lowTo (l : List UInt8) (k : Nat) : List UInt8 := (l.take k).map Lib.lowerB ++ l.drop k
theorem low_len (l : List UInt8) (k : Nat) : (lowTo l k).length = l.length := by simp [lowTo]; omega
theorem low_at (l : List UInt8) (k : Nat) (hk : k < l.length) : (lowTo l k).getD k 0 = l.getD k 0 := by
  unfold lowTo
  rw [List.getD_eq_getElem?_getD, List.getElem?_append_right (by simp; omega), List.getD_eq_getElem?_getD]
  simp [List.getElem?_drop, Nat.min_eq_left (Nat.le_of_lt hk)]
theorem low_set (l : List UInt8) (k : Nat) (hk : k < l.length) : (lowTo l k).set k (Lib.lowerB (l.getD k 0)) = lowTo l (k + 1) := by
  unfold lowTo
  rw [List.set_append_right _ _ (by simp; omega)]
  have h1 : ((l.take k).map Lib.lowerB).length = k := by simp; omega
  rw [h1, Nat.sub_self, List.drop_eq_getElem_cons hk, List.set_cons_zero, List.take_succ_eq_append_getElem hk, List.map_append, List.append_assoc]
  simp [List.getD_eq_getElem?_getD, hk]
theorem low_all (l : List UInt8) : lowTo l l.length = l.map Lib.lowerB := by simp [lowTo]
set_option maxRecDepth 100000 in
set_option maxHeartbeats 3200000 in
theorem Lower_any (s : ByteArray) (w : World) (hs : s.size ≤ 140737488355328) :
    Calls Tryd.prog 21 #[.string s] w fun e w' => e = .returned (.string (strB (s.data.toList.map Lib.lowerB))) ∧ Below w.heap.size w w' := by
  have hcv := Lib.run_convert_string_bytes (P := Tryd.prog) w 9 29 5 s (u := .string) Tryd.underlying9 Tryd.underlying29 Tryd.underlying5
  have hL := Lib.hid (LW.start w s)
  have hsz := size_data s
  have HSZ := Lib.hid hsz
  clear hsz
  generalize hG : grownCap w s.size 0 5 = G at hcv
  generalize Lib.bytesWorld w 5 s = w1 at hcv hL
  clear hG
  go_enter Tryd.func21, Tryd.ntmps21
  go_wp2
  go_loopw [4] (fun i wr => ∃ k : Nat, k ≤ s.size ∧ i = .int .i64 (k : Int) ∧ Hid (LW w wr (lowTo s.data.toList k))) (fun i _ => s.size - (intOf i).toNat)
  case atStart => exact ⟨0, Nat.zero_le _, rfl, Lib.hid (by simpa [lowTo] using hL.out)⟩
  case round =>
    obtain ⟨k, hk, rfl, hR⟩ := hrel
    by_cases hlt : k < s.size
    · have hkl : k < s.data.toList.length := by rw [HSZ.out]; exact hlt
      obtain ⟨c, hc⟩ : ∃ c, s.data.toList.getD k 0 = c := ⟨_, rfl⟩
      have c1 : wr.cell? ⟨w.heap.size, k, none⟩ = some (.int .u8 (c.toNat : Int)) := by
        have := hR.out.cell (j := k) (by rw [low_len]; exact hkl)
        rwa [low_at _ _ hkl, hc] at this
      have c2 : wr.frozen? ⟨w.heap.size, k, none⟩ = false := hR.out.free (by rw [low_len]; exact hkl)
      have HN : Hid (LW w (wr.setCell ⟨w.heap.size, k, none⟩ (.int .u8 ((Lib.lowerB c).toNat : Int))) (lowTo s.data.toList (k + 1))) := Lib.hid (by
        have := hR.out.set (j := k) (by rw [low_len]; exact hkl) (Lib.lowerB c)
        rw [← hc, low_set _ _ hkl, hc] at this
        exact this)
      clear hkl hc
      go_wp2_with (go_at_call 39; refine (Small_any c _).mono ?_; rintro e w' ⟨rfl, rfl⟩)
      go_roundw
      case rel => exact ⟨k + 1, by omega, by go_num, HN⟩
      case measure => simp [intOf]; omega
    · have hk' : k = s.data.toList.length := by rw [HSZ.out]; omega
      have hR2 : Hid (LW w wr (s.data.toList.map Lib.lowerB)) := Lib.hid (by
        have := hR.out
        rw [hk', low_all] at this
        exact this)
      have hq : (convert 29 9 (.slice (some ⟨w.heap.size, 0, none⟩) s.size G)).run Tryd.prog wr = .ok (.string (strB (s.data.toList.map Lib.lowerB))) wr := conv_cells (by rw [List.length_map]; exact HSZ.out) (fun i hi => hR2.out.cell (by rw [List.length_map, HSZ.out]; exact hi)) _ 5 _ Tryd.underlying29 Tryd.underlying5 Tryd.underlying9
      have HB : Hid (Below w.heap.size w wr) := Lib.hid (by obtain ⟨_, _, _, _, _, h⟩ := hR2.out; exact h)
      clear hR hR2 hcv hk'
      go_wp2
      go_ret
      exact ⟨rfl, HB.out⟩
end Go.Proofs.YtckjnlonijodcaaDoor.Tx
