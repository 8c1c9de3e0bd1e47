/-
  Values as bytes: the reference's PutValue. Conditions: the numbers are Go's ints.
-/
import Derived.Test.YtfdcgmcinkdlmaaCell10
namespace Go.Proofs.Ytfdcgmcinkdlmaa.Cell
open Go.RowKit Go.Proofs.Ytfdcgmcinkdlmaa.W Go.Proofs.Ytfdcgmcinkdlmaa.Byt Go.Proofs.Ytfdcgmcinkdlmaa.Num

theorem bytesOf_any (k : Int) (w : World) : Calls Try.prog 27 #[.int .i64 k] w fun e w' => e = .returned (.int .i64 (bytesN k)) ∧ w = w' := by
  by_cases h1 : k = 1
  · subst h1
    go_enter Try.func27, Try.ntmps27
    go_wp2
    go_ret
    exact ⟨rfl, rfl⟩
  by_cases h2 : k = 2
  · subst h2
    go_enter Try.func27, Try.ntmps27
    go_wp2
    go_ret
    exact ⟨rfl, rfl⟩
  by_cases h4 : k = 4
  · subst h4
    go_enter Try.func27, Try.ntmps27
    go_wp2
    go_ret
    exact ⟨rfl, rfl⟩
  have e : bytesN k = 4 := by simp [bytesN, h1, h2, h4]
  rw [e]
  have t1 : (k == 1) = false := by simpa using h1
  have t2 : (k == 2) = false := by simpa using h2
  have t4 : (k == 4) = false := by simpa using h4
  clear e
  go_enter Try.func27, Try.ntmps27
  go_wp2
  go_ret
  exact ⟨rfl, rfl⟩

/-- the number that PutValue takes apart -/
def upF (k n : Int) : Int := if n < 0 then n + (wideF k).1 else n
theorem up_byte {k n : Int} (h : fitsF k n = true) : 0 ≤ upF k n ∧ upF k n ≤ 4294967295 ∧ ∀ j, j < bytesN k → upF k n / 2 ^ (8 * j) % 256 = n / 2 ^ (8 * j) % 256 := by
  unfold upF wideF bytesN
  by_cases h1 : k = 1
  · simp [fitsF, h1] at h
    simp [h1, show ¬ n < 0 by omega]
    omega
  by_cases h2 : k = 2
  · simp [fitsF, h2] at h
    subst h2
    refine ⟨by simp; split <;> omega, by simp; split <;> omega, fun j hj => ?_⟩
    have : j = 0 ∨ j = 1 := by simp at hj; omega
    rcases this with rfl | rfl <;> simp <;> split <;> omega
  by_cases h3 : k = 3
  · simp [fitsF, h3] at h
    subst h3
    refine ⟨by simp; split <;> omega, by simp; split <;> omega, fun j hj => ?_⟩
    have : j = 0 ∨ j = 1 ∨ j = 2 ∨ j = 3 := by simp at hj; omega
    rcases this with rfl | rfl | rfl | rfl <;> simp <;> split <;> omega
  by_cases h4 : k = 4
  · simp [fitsF, h4] at h
    subst h4
    refine ⟨by simp; split <;> omega, by simp; split <;> omega, fun j hj => ?_⟩
    have : j = 0 ∨ j = 1 := by simp at hj; omega
    rcases this with rfl | rfl <;> simp <;> split <;> omega
  by_cases h5 : k = 5
  · simp [fitsF, h5] at h
    subst h5
    refine ⟨by simp; split <;> omega, by simp; split <;> omega, fun j hj => ?_⟩
    have : j = 0 ∨ j = 1 ∨ j = 2 ∨ j = 3 := by simp at hj; omega
    rcases this with rfl | rfl | rfl | rfl <;> simp <;> split <;> omega
  simp [fitsF, h1, h2, h3, h4, h5] at h

theorem made_u8 (m : Nat) : (madeCells (Value.cells (.int .u8 0)) (m * 1)) = (List.replicate m (Value.int .u8 0)).toArray := by
  apply Array.ext
  · simp [madeCells]
  · intro i h1 h2
    simp [madeCells, Value.cells, Nat.mod_one]
def halfC (m : Nat) (n : Int) (q : Nat) : Array Value := (List.replicate (m - q) (Value.int .u8 0) ++ byts ((putB m n).drop (m - q))).toArray
theorem half_zero (m : Nat) (n : Int) : halfC m n 0 = (List.replicate m (Value.int .u8 0)).toArray := by
  unfold halfC
  rw [Nat.sub_zero, List.drop_of_length_le (by rw [putB_len]; omega)]
  simp
theorem half_all (m : Nat) (n : Int) : (halfC m n m).toList = byts (putB m n) := by simp [halfC]
theorem set_rep (z v : Value) : ∀ (p : Nat) (L : List Value), (List.replicate (p + 1) z ++ L).set p v = List.replicate p z ++ v :: L
  | 0, L => rfl
  | p + 1, L => by
    show z :: (List.replicate (p + 1) z ++ L).set p v = _
    rw [set_rep z v p L]
    rfl
theorem half_succ {m q : Nat} {n : Int} (h : q < m) {p : Nat} (hp : p = m - 1 - q) : (halfC m n q).setIfInBounds p (.int .u8 ((byteAt n q).toNat : Int)) = halfC m n (q + 1) := by
  have e1 : m - q = p + 1 := by omega
  have e2 : m - (q + 1) = p := by omega
  unfold halfC
  rw [e1, e2, List.setIfInBounds_toArray, set_rep]
  congr 2
  rw [List.drop_eq_getElem_cons (i := p) (by rw [putB_len]; omega)]
  simp [putB, byts, show m - 1 - p = q by omega]

set_option maxHeartbeats 1600000 in
theorem PutR_any (k n : Int) (w : World) (hn : -9223372036854775808 ≤ n) (hn' : n ≤ 9223372036854775807) :
    Calls Try.prog 9 #[.int .i64 k, .int .i64 n] w fun e w' => ∃ A c, e = .returned (.slice A (putF k n).length c) ∧ Rd w' 1 A (putF k n).length (byts (putF k n)) ∧ Below w.heap.size w w' := by
  cases hf : fitsF k n
  · have hF : putF k n = [] := by simp [putF, hf]
    rw [hF]
    have HF := Lib.hid hf
    clear hf hF
    go_enter Try.func9, Try.ntmps9
    go_wp2_with fail
    refine (FitsR_any k n _).mono ?_
    rintro e w1 ⟨rfl, rfl⟩
    rw [HF.out]
    go_wp2
    go_ret
    exact ⟨none, 0, rfl, Rd.nil _ _ _, Below.refl _ _⟩
  · obtain ⟨hb1, hb2, hb3, hb4, hb5⟩ := width_bytes hf
    obtain ⟨hu1, hu2, hu3⟩ := up_byte hf
    have hF : putF k n = putB (bytesN k) n := by simp [putF, hf]
    rw [hF]
    have HW := Lib.hid (Width_any k w)
    have HBO := Lib.hid (bytesOf_any k w)
    have hup : upF k n = if n < 0 then n + (wideF k).1 else n := rfl
    have hws : 0 ≤ (wideF k).1 ∧ (wideF k).1 ≤ 4294967296 := by
      unfold wideF
      repeat' split
      all_goals simp
    generalize (wideF k).1 = b at hws hup HW
    generalize (wideF k).2 = lo at HW
    generalize upF k n = U at *
    generalize bytesN k = m at *
    have HF := Lib.hid hf
    have HU3 := Lib.hid hu3
    obtain ⟨i0, hi0, hz0, hz1, hz2⟩ := info_parts u8_info
    have hmk : (Instr.makeSlice 23 (.int .i64 (m : Int)) (.int .i64 (m : Int))).run Try.prog w = .ok (.slice (some ⟨w.heap.size, 0, none⟩) m m) (w.alloc (.cells (halfC m n 0) 5)) := by
      have h := run_make (P := Try.prog) w 23 5 i0 (.int .u8 0) Try.underlying23 hi0 hz0 .i64 .i64 (m : Int) (m : Int) (by omega) (Int.le_refl _) (by rw [hz2]; omega) (by omega)
      rw [hz1] at h
      simp only [Int.toNat_natCast] at h
      rw [h, made_u8, half_zero]
    have hm1 : (m : Int) - 1 < 4 := by omega
    clear hf hF hb1 hb2 hb3 hu3
    by_cases hneg : n < 0
    · rw [if_pos hneg] at hup
      have HUP := Lib.hid hup
      clear hup
      go_enter Try.func9, Try.ntmps9
      go_wp2_with fail
      refine (FitsR_any k n _).mono ?_
      rintro e w1 ⟨rfl, rfl⟩
      rw [HF.out]
      go_wp2_with fail
      refine HW.out.mono ?_
      rintro e w1 ⟨rfl, rfl⟩
      go_wp2_with fail
      refine HBO.out.mono ?_
      rintro e w1 ⟨rfl, rfl⟩
      go_wp2
      rw [← HUP.out]
      go_loopw [1, 8] (fun nv i wr => ∃ q : Nat, q ≤ m ∧ i = .int .i64 ((m : Int) - 1 - (q : Int)) ∧ ∃ T : Int, nv = .int .i64 T ∧ (0 ≤ T ∧ T ≤ 4294967295) ∧ Hid (T = U / 2 ^ (8 * q)) ∧ Hid (Blk wr w.heap.size 5 (halfC m n q)) ∧ Hid (Below w.heap.size w wr)) (fun _ i _ => (1 + intOf i).toNat)
      case atStart => exact ⟨0, Nat.zero_le _, by simp, U, rfl, ⟨hu1, hu2⟩, by simp [Hid], Blk.new w _ _, below_alloc _⟩
      case round =>
        obtain ⟨q, hq, rfl, T, rfl, ⟨ht1, ht2⟩, HTQ, HBK, HBW⟩ := hrel
        by_cases hlt : q < m
        · obtain ⟨p, hp⟩ : ∃ p : Nat, p = m - 1 - q := ⟨_, rfl⟩
          have he : (m : Int) - 1 - (q : Int) = (p : Int) := by omega
          have hs := half_succ (n := n) hlt hp
          have hv : ((byteAt n q).toNat : Int) = T % 256 := by rw [byte_at, HTQ.out, HU3.out q hlt]
          rw [hv] at hs
          have hc : ∃ u, wr.cell? ⟨w.heap.size, p, none⟩ = some u := by
            rw [HBK.out.cell]
            exact ⟨_, Array.getElem?_eq_getElem (show p < (halfC m n q).size by simp [halfC, putB_len]; omega)⟩
          obtain ⟨u, hc⟩ := hc
          have hz := HBK.out.frozen p
          have hpm : p < m := by omega
          have KP := Lib.hid (HBK.out.put p (.int .u8 (T % 256)))
          have BP := Lib.hid (HBW.out.setCell (p := ⟨w.heap.size, p, none⟩) (Nat.le_refl _) (.int .u8 (T % 256)))
          have HS := Lib.hid hs
          have HE := Lib.hid he
          rw [he]
          clear hp hs hv he
          go_wp2
          go_roundw
          case rel =>
            refine ⟨q + 1, by omega, by have := HE.out; simp; omega, T / 256, rfl, by omega, ?_, ?_, BP⟩
            · show T / 256 = U / 2 ^ (8 * (q + 1))
              rw [HTQ.out, show 8 * (q + 1) = 8 * q + 8 by omega, Int.pow_add, Int.ediv_ediv_of_nonneg (Int.pow_nonneg (by omega))]
              rfl
            · have h := KP.out
              rw [HS.out] at h
              exact Lib.hid h
          case measure => have := HE.out; simp [intOf]; omega
        · have hqm : q = m := by omega
          have hneg : (m : Int) - 1 - (q : Int) < 0 := by omega
          have hrd : Rd wr 1 (some ⟨w.heap.size, 0, none⟩) (putB m n).length (byts (putB m n)) := rd_blk HBK.out (by rw [hqm, half_all]) (by simp)
          have HRD := Lib.hid hrd
          clear hqm hrd
          go_wp2
          go_ret
          exact ⟨some ⟨w.heap.size, 0, none⟩, m, by rw [putB_len]; rfl, HRD.out, HBW.out⟩
    · rw [if_neg hneg] at hup
      have hup2 := hup.symm
      subst hup2
      go_enter Try.func9, Try.ntmps9
      go_wp2_with fail
      refine (FitsR_any k n _).mono ?_
      rintro e w1 ⟨rfl, rfl⟩
      rw [HF.out]
      go_wp2_with fail
      refine HW.out.mono ?_
      rintro e w1 ⟨rfl, rfl⟩
      go_wp2_with fail
      refine HBO.out.mono ?_
      rintro e w1 ⟨rfl, rfl⟩
      go_wp2
      go_loopw [1, 8] (fun nv i wr => ∃ q : Nat, q ≤ m ∧ i = .int .i64 ((m : Int) - 1 - (q : Int)) ∧ ∃ T : Int, nv = .int .i64 T ∧ (0 ≤ T ∧ T ≤ 4294967295) ∧ Hid (T = n / 2 ^ (8 * q)) ∧ Hid (Blk wr w.heap.size 5 (halfC m n q)) ∧ Hid (Below w.heap.size w wr)) (fun _ i _ => (1 + intOf i).toNat)
      case atStart => exact ⟨0, Nat.zero_le _, by simp, n, rfl, ⟨hu1, hu2⟩, by simp [Hid], Blk.new w _ _, below_alloc _⟩
      case round =>
        obtain ⟨q, hq, rfl, T, rfl, ⟨ht1, ht2⟩, HTQ, HBK, HBW⟩ := hrel
        by_cases hlt : q < m
        · obtain ⟨p, hp⟩ : ∃ p : Nat, p = m - 1 - q := ⟨_, rfl⟩
          have he : (m : Int) - 1 - (q : Int) = (p : Int) := by omega
          have hs := half_succ (n := n) hlt hp
          have hv : ((byteAt n q).toNat : Int) = T % 256 := by rw [byte_at, HTQ.out]
          rw [hv] at hs
          have hc : ∃ u, wr.cell? ⟨w.heap.size, p, none⟩ = some u := by
            rw [HBK.out.cell]
            exact ⟨_, Array.getElem?_eq_getElem (show p < (halfC m n q).size by simp [halfC, putB_len]; omega)⟩
          obtain ⟨u, hc⟩ := hc
          have hz := HBK.out.frozen p
          have hpm : p < m := by omega
          have KP := Lib.hid (HBK.out.put p (.int .u8 (T % 256)))
          have BP := Lib.hid (HBW.out.setCell (p := ⟨w.heap.size, p, none⟩) (Nat.le_refl _) (.int .u8 (T % 256)))
          have HS := Lib.hid hs
          have HE := Lib.hid he
          rw [he]
          clear hp hs hv he
          go_wp2
          go_roundw
          case rel =>
            refine ⟨q + 1, by omega, by have := HE.out; simp; omega, T / 256, rfl, by omega, ?_, ?_, BP⟩
            · show T / 256 = n / 2 ^ (8 * (q + 1))
              rw [HTQ.out, show 8 * (q + 1) = 8 * q + 8 by omega, Int.pow_add, Int.ediv_ediv_of_nonneg (Int.pow_nonneg (by omega))]
              rfl
            · have h := KP.out
              rw [HS.out] at h
              exact Lib.hid h
          case measure => have := HE.out; simp [intOf]; omega
        · have hqm : q = m := by omega
          have hneg : (m : Int) - 1 - (q : Int) < 0 := by omega
          have hrd : Rd wr 1 (some ⟨w.heap.size, 0, none⟩) (putB m n).length (byts (putB m n)) := rd_blk HBK.out (by rw [hqm, half_all]) (by simp)
          have HRD := Lib.hid hrd
          clear hqm hrd
          go_wp2
          go_ret
          exact ⟨some ⟨w.heap.size, 0, none⟩, m, by rw [putB_len]; rfl, HRD.out, HBW.out⟩
end Go.Proofs.Ytfdcgmcinkdlmaa.Cell
