/-
  Values as bytes: cell's Put and the reference's PutValue. Conditions: the numbers are Go's ints.
-/
import Derived.Test.YtckjnlonijodcaaDoorCell1
import Derived.Test.YtckjnlonijodcaaDoorByt
import Derived.Test.YtckjnlonijodcaaDoorNum
namespace Go.Proofs.YtckjnlonijodcaaDoor.Cell
open Go.RowKit Go.Proofs.YtckjnlonijodcaaDoor.W Go.Proofs.YtckjnlonijodcaaDoor.Byt Go.Proofs.YtckjnlonijodcaaDoor.Num

def bytesN (k : Int) : Nat := if k = 1 then 1 else if k = 2 ∨ k = 4 then 2 else 4
def byteAt (n : Int) (j : Nat) : UInt8 := UInt8.ofNat ((n / 2 ^ (8 * j)) % 256).toNat
def putB (m : Nat) (n : Int) : List UInt8 := (List.range m).map fun i => byteAt n (m - 1 - i)
def putF (k n : Int) : List UInt8 := if fitsF k n = true then putB (bytesN k) n else []
theorem putB_len (m : Nat) (n : Int) : (putB m n).length = m := by simp [putB]
theorem putB_succ {m k : Nat} (n : Int) (h : k < m) : (putB m n).take (k + 1) = (putB m n).take k ++ [byteAt n (m - 1 - k)] := by
  rw [List.take_succ_eq_append_getElem (by rw [putB_len]; exact h)]
  simp [putB]
theorem byte_at (n : Int) (j : Nat) : ((byteAt n j).toNat : Int) = (n / 2 ^ (8 * j)) % 256 := by
  unfold byteAt
  have h1 := Int.emod_nonneg (n / 2 ^ (8 * j)) (show (256 : Int) ≠ 0 by omega)
  have h2 := Int.emod_lt_of_pos (n / 2 ^ (8 * j)) (show (0 : Int) < 256 by omega)
  generalize (n / 2 ^ (8 * j)) % 256 = z at h1 h2
  simp
  omega
theorem wrap_u8 (x : Int) : IntKind.u8.wrap x = x % 256 := by simp [IntKind.wrap, IntKind.bits, IntKind.signed]
def Bytes (w w' : World) (e : Ending) (L : List UInt8) : Prop := ∃ A c, e = .returned (.slice A L.length c) ∧ w'.ownsRow w.heap.size 5 1 (.slice A L.length c) L.length (byts L) ∧ Below w.heap.size w w'

theorem widthC_any (k : Int) (w : World) : Calls Tryd.prog 13 #[.int .i64 k] w fun e w' => e = .returned (.tuple #[.int .i64 (widthF k).1, .bool (widthF k).2]) ∧ w = w' := width_any k w
theorem width_bytes {k n : Int} (h : fitsF k n = true) : ((widthF k).1 + 7) / 8 = (bytesN k : Int) ∧ 1 ≤ (widthF k).1 ∧ (widthF k).1 ≤ 32 ∧ 1 ≤ bytesN k ∧ bytesN k ≤ 4 := by
  unfold widthF bytesN
  by_cases h1 : k = 1
  · simp [h1]
  by_cases h2 : k = 2
  · simp [h2]
  by_cases h3 : k = 3
  · simp [h3]
  by_cases h4 : k = 4
  · simp [h4]
  by_cases h5 : k = 5
  · simp [h5]
  simp [fitsF, h1, h2, h3, h4, h5] at h

set_option maxHeartbeats 1600000 in
set_option maxRecDepth 100000 in
theorem Put_any (k n : Int) (w : World) (hn : -9223372036854775808 ≤ n) (hn' : n ≤ 9223372036854775807) :
    Calls Tryd.prog 10 #[.int .i64 k, .int .i64 n] w fun e w' => Bytes w w' e (putF k n) := by
  obtain ⟨i0, hi0, hz0, hz1, hz2⟩ := info_parts u8_info
  cases hf : fitsF k n
  · have hF : putF k n = [] := by simp [putF, hf]
    rw [hF]
    have HF := Lib.hid hf
    clear hf hF
    go_enter Tryd.func10, Tryd.ntmps10
    go_wp2_with fail
    refine (Fits_any k n _ hn hn').mono ?_
    rintro e w1 ⟨rfl, rfl⟩
    rw [HF.out]
    go_wp2
    go_ret
    exact ⟨none, 0, rfl, World.ownsRow_nil _ _ _ _, Below.refl _ _⟩
  · obtain ⟨hb1, hb2, hb3, hb4, hb5⟩ := width_bytes hf
    have hF : putF k n = putB (bytesN k) n := by simp [putF, hf]
    rw [hF]
    have HW := Lib.hid (width_any k w)
    generalize (widthF k).1 = b at hb1 hb2 hb3 HW
    generalize (widthF k).2 = sg at HW
    generalize bytesN k = m at *
    have HF := Lib.hid hf
    clear hf hF
    go_enter Tryd.func10, Tryd.ntmps10
    go_wp2_with fail
    refine (Fits_any k n _ hn hn').mono ?_
    rintro e w1 ⟨rfl, rfl⟩
    rw [HF.out]
    go_wp2_with fail
    refine HW.out.mono ?_
    rintro e w1 ⟨rfl, rfl⟩
    go_wp2
    rw [hb1]
    go_loopw [7, 8] (fun ov i wr => ∃ q : Nat, q ≤ m ∧ i = .int .i64 (8 * (m : Int) - 8 - 8 * (q : Int)) ∧ ∃ A c, ov = .slice A q c ∧ Hid (wr.ownsRow w.heap.size 5 1 (.slice A q c) q (byts ((putB m n).take q))) ∧ Hid (Below w.heap.size w wr)) (fun _ i _ => (8 + intOf i).toNat)
    case atStart => exact ⟨0, Nat.zero_le _, by simp; omega, none, 0, rfl, World.ownsRow_nil _ _ _ _, Below.refl _ _⟩
    case round =>
      obtain ⟨q, hq, rfl, A, c, rfl, HO, HB⟩ := hrel
      by_cases hlt : q < m
      · obtain ⟨j, hj⟩ : ∃ j : Nat, j = 8 * (m - 1 - q) := ⟨_, rfl⟩
        have he : 8 * (m : Int) - 8 - 8 * (q : Int) = (j : Int) := by omega
        have HE := Lib.hid he
        have HJ := Lib.hid hj
        rw [he]
        have hj32 : j < 64 := by omega
        have hsz := HB.out.size
        have hO := HO.out
        clear he hj
        go_wp2_with (at_builtin; refine wpList_append_rd _ rfl (.tmp 27) (.tmp 32) 29 rfl w.heap.size 5 i0 _ 1 1 Tryd.underlying29 hi0 hz0 hz1 hz2 rfl (by omega) (.slice A q c) q (byts ((putB m n).take q)) rfl (own_below hO (below_alloc _)) _ 1 1 _ rfl (rd_new _ _ _) ?_ ?_ ?_ ?_ ?_)
        · simp [Value.oneCell']
        · unfold maxLen; omega
        · omega
        · simp; omega
        intro v3 w3 o3 g3 at3
        obtain ⟨A3, c3, rfl, hs1, hs2, _⟩ := own_shape o3
        have hL : List.take q (List.map (fun b => Value.int IntKind.u8 (b.toNat : Int)) (putB m n)) ++ [Value.int .u8 (n / 2 ^ j % 256)] = byts ((putB m n).take (q + 1)) := by
          rw [putB_succ n hlt, ← List.map_take]
          simp only [byts, List.map_append, List.map_cons, List.map_nil]
          rw [byte_at, HJ.out]
        rw [hL] at o3
        have O3 := Lib.hid o3
        have b3 : Hid (Below w.heap.size w w3) := HB.out.trans (((below_alloc (.cells #[.int .u8 (n / 2 ^ j % 256)] 5)).mono hsz).trans (Grow.below g3 (by simp; omega) (fun g hg => (hO.lt _ hg).1)))
        clear o3 g3 at3 hO hL
        go_wp2
        go_roundw
        case rel => exact ⟨q + 1, by omega, by have := HE.out; simp; omega, A3, c3, rfl, O3, b3⟩
        case measure => have := HE.out; simp [intOf]; omega
      · have hqm : q = m := by omega
        have hfin : (putB m n).take q = putB m n := List.take_of_length_le (by rw [putB_len]; omega)
        have hlen : (putB m n).length = q := by rw [putB_len, hqm]
        have HFN := Lib.hid hfin
        have HLN := Lib.hid hlen
        have hO := HO.out
        rw [hfin] at hO
        have HO2 := Lib.hid hO
        have hneg : 8 * (m : Int) - 8 - 8 * (q : Int) < 0 := by omega
        clear hfin hlen hO HO hqm
        go_wp2
        go_ret
        exact ⟨A, c, by rw [HLN.out]; rfl, by rw [HLN.out]; exact HO2.out, HB.out⟩
end Go.Proofs.YtckjnlonijodcaaDoor.Cell
