/-
  The value that bytes are: cell's Get and the reference's GetValue. Conditions: the bytes read.
-/
import Derived.Test.YtckjnlonijodcaaDoorCell11
namespace Go.Proofs.YtckjnlonijodcaaDoor.Cell
open Go.RowKit Go.Proofs.YtckjnlonijodcaaDoor.W Go.Proofs.YtckjnlonijodcaaDoor.Byt Go.Proofs.YtckjnlonijodcaaDoor.Num

def valB (bs : List UInt8) : Nat := bs.foldl (fun a b => a * 256 + b.toNat) 0
theorem val_snoc (bs : List UInt8) (b : UInt8) : valB (bs ++ [b]) = valB bs * 256 + b.toNat := by simp [valB]
theorem take_snoc (bs : List UInt8) (k : Nat) (h : k < bs.length) : bs.take (k + 1) = bs.take k ++ [bs.getD k 0] := by
  rw [List.take_succ_eq_append_getElem h]
  simp [List.getD_eq_getElem?_getD, List.getElem?_eq_getElem h]
theorem val_take {bs : List UInt8} {k : Nat} (h : k < bs.length) : valB (bs.take (k + 1)) = valB (bs.take k) * 256 + (bs.getD k 0).toNat := by rw [take_snoc bs k h, val_snoc]
theorem val_lt (bs : List UInt8) : ∀ k, k ≤ 4 → k ≤ bs.length → valB (bs.take k) < 2 ^ (8 * k)
  | 0, _, _ => by simp [valB]
  | k + 1, h4, h => by
    have ih := val_lt bs k (by omega) (by omega)
    have hb := (bs.getD k 0).toNat_lt
    rw [val_take (by omega), show 8 * (k + 1) = 8 * k + 8 by omega, Nat.pow_add]
    omega
def getF (k : Int) (bs : List UInt8) : Int × Int :=
  if (widthF k).1 = 0 then (0, 5) else if bs.length ≠ bytesN k then (0, 4) else if k = 1 ∧ 1 < valB bs then (0, 3) else (wrapF k (valB bs), 0)
theorem known (k : Int) : (widthF k).1 = 0 ∨ (((widthF k).1 + 7) / 8 = (bytesN k : Int) ∧ 1 ≤ (widthF k).1 ∧ (widthF k).1 ≤ 32 ∧ 1 ≤ bytesN k ∧ bytesN k ≤ 4 ∧ ((widthF k).1 == 0) = false ∧ ((wideF k).1 == 0) = false) := by
  unfold widthF bytesN wideF
  by_cases h1 : k = 1
  · right; simp [h1]
  by_cases h2 : k = 2
  · right; simp [h2]
  by_cases h3 : k = 3
  · right; simp [h3]
  by_cases h4 : k = 4
  · right; simp [h4]
  by_cases h5 : k = 5
  · right; simp [h5]
  left
  simp [h1, h2, h3, h4, h5]
theorem none_wide {k : Int} (h : (widthF k).1 = 0) : (wideF k).1 = 0 := by
  rcases known k with h1 | ⟨_, h2, _⟩
  · unfold widthF at h
    unfold wideF
    repeat' split at h
    all_goals simp_all
  · omega

set_option maxHeartbeats 1600000 in
theorem Get_any (k : Int) (A : Option Addr) (n c : Nat) (bs : List UInt8) (w : World) (hr : Rd w 1 A n (byts bs)) (hn : n ≤ 140737488351232) :
    Calls Tryd.prog 11 #[.int .i64 k, .slice A n c] w fun e w' => e = .returned (.tuple #[.int .i64 (getF k bs).1, .int .i64 (getF k bs).2]) ∧ w' = w := by
  have hl := brd_len hr
  have HR := Lib.hid hr
  have HW := Lib.hid (width_any k w)
  rcases known k with h0 | ⟨hb1, hb2, hb3, hb4, hb5, ht1, ht2⟩
  · have hG : getF k bs = (0, 5) := by simp [getF, h0]
    rw [hG]
    rw [h0] at HW
    clear h0 hr
    generalize (widthF k).2 = sg at HW
    go_enter Tryd.func11, Tryd.ntmps11
    go_wp2_with fail
    refine HW.out.mono ?_
    rintro e w1 ⟨rfl, rfl⟩
    go_wp2
    go_ret2
    exact ⟨by simp, rfl⟩
  · have hz : (widthF k).1 ≠ 0 := by omega
    generalize hG : getF k bs = G
    unfold getF at hG
    rw [if_neg hz] at hG
    generalize (widthF k).1 = b at *
    generalize (widthF k).2 = sg at *
    by_cases hlen : n = bytesN k
    · rw [if_neg (by rw [hl]; simpa using hlen)] at hG
      generalize bytesN k = m at *
      subst hlen
      have hq1 : ((n : Int) != (n : Int)) = false := by simp
      have HG := Lib.hid hG
      have HL := Lib.hid hl
      clear hG hl hr hz
      go_enter Tryd.func11, Tryd.ntmps11
      go_wp2_with fail
      refine HW.out.mono ?_
      rintro e w1 ⟨rfl, rfl⟩
      go_wp2
      rw [hb1]
      go_loop [8, 10, 26] (fun v _ i => ∃ q : Nat, q ≤ n ∧ i = .int .i64 q ∧ ∃ V : Nat, v = .int .i64 (V : Int) ∧ Hid (V = valB (bs.take q))) (fun _ _ i => n - (intOf i).toNat)
      case atStart => exact ⟨0, Nat.zero_le _, rfl, 0, rfl, rfl⟩
      case round =>
        obtain ⟨q, hq, rfl, V, rfl, HV⟩ := hrel
        have hvl : V < 2 ^ (8 * q) := by rw [HV.out]; exact val_lt bs q (by omega) (by rw [HL.out]; exact hq)
        by_cases hlt : q < n
        · have hv24 : V < 16777216 := Nat.lt_of_lt_of_le hvl (Nat.pow_le_pow_right (by omega) (show 8 * q ≤ 24 by omega))
          obtain ⟨b', o, rfl, hc⟩ := brd_at HR.out (by omega)
          have h1 := hc q hlt
          clear hc hvl
          generalize hx : bs.getD q 0 = x at h1
          have HX := Lib.hid hx
          have hxl := x.toNat_lt
          have hor : bits .or .i64 ((V : Int) * 256) (x.toNat : Int) = ((V * 256 + x.toNat : Nat) : Int) := by
            rw [show (V : Int) * 256 = ((V * 256 : Nat) : Int) by omega, i64_or_nat _ _ (by omega) (by omega), Nat.or_comm, lohi _ _ hxl, Nat.add_comm]
          clear hx
          go_wp2
          go_round
          case rel => exact ⟨q + 1, by omega, by go_num, V * 256 + x.toNat, by simp, Lib.hid (by rw [val_take (by rw [HL.out]; exact hlt), HX.out, ← HV.out])⟩
          case measure => simp [intOf]; omega
        · have hqn : q = n := by omega
          have hv32 : V < 4294967296 := Nat.lt_of_lt_of_le hvl (Nat.pow_le_pow_right (by omega) (show 8 * q ≤ 32 by omega))
          have hVe : valB bs = V := by rw [HV.out, List.take_of_length_le (by rw [HL.out]; omega)]
          have hG := HG.out
          rw [hVe] at hG
          clear hvl hVe hqn HG HV
          by_cases hk1 : k = 1
          · subst hk1
            by_cases hv1 : 1 < V
            · rw [if_pos ⟨rfl, hv1⟩] at hG
              subst hG
              go_wp2
              go_ret2
              exact ⟨by simp, rfl⟩
            · rw [if_neg (fun h => hv1 h.2)] at hG
              subst hG
              have hv2 : decide (1 < (V : Int)) = false := by simp; omega
              go_wp2_with fail
              refine (Wrap_any 1 (V : Int) _ (by omega) (by omega)).mono ?_
              rintro e w1 ⟨rfl, rfl⟩
              go_wp2
              go_ret2
              exact ⟨by simp, rfl⟩
          · rw [if_neg (fun h => hk1 h.1)] at hG
            subst hG
            have hk2 : (k == 1) = false := by simpa using hk1
            go_wp2_with fail
            refine (Wrap_any k (V : Int) _ (by omega) (by omega)).mono ?_
            rintro e w1 ⟨rfl, rfl⟩
            go_wp2
            go_ret2
            exact ⟨by simp, rfl⟩
    · rw [if_pos (by rw [hl]; exact hlen)] at hG
      subst hG
      have hq1 : ((n : Int) != (bytesN k : Int)) = true := by simp; omega
      generalize bytesN k = m at *
      clear hl hr hz
      go_enter Tryd.func11, Tryd.ntmps11
      go_wp2_with fail
      refine HW.out.mono ?_
      rintro e w1 ⟨rfl, rfl⟩
      go_wp2
      go_ret2
      exact ⟨by simp, rfl⟩
end Go.Proofs.YtckjnlonijodcaaDoor.Cell
