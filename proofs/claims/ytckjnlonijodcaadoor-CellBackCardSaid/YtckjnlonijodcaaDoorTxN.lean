/-
  The law CellBack: what is put is got (plain), and the walk. Conditions: the tables as they are laid.
-/
import Derived.Test.YtckjnlonijodcaaDoorTxM
import Derived.Test.YtckjnlonijodcaaDoorTxK
import Derived.Test.YtckjnlonijodcaaDoorCell12
namespace Go.Proofs.YtckjnlonijodcaaDoor.Tx
open Go.RowKit Go.Proofs.YtckjnlonijodcaaDoor.W Go.Proofs.YtckjnlonijodcaaDoor.Num Go.Proofs.YtckjnlonijodcaaDoor.Cell

theorem val_1 (n : Int) : (valB (putB 1 n) : Int) = n % 256 := by
  have h0 := byte_at n 0
  simp only [Nat.mul_zero] at h0
  simp [putB, valB, List.range_succ]
  omega
theorem val_2 (n : Int) : (valB (putB 2 n) : Int) = n % 65536 := by
  have h0 := byte_at n 0
  have h1 := byte_at n 1
  simp only [Nat.mul_zero] at h0
  simp at h0 h1
  simp [putB, valB, List.range_succ]
  omega
theorem val_4 (n : Int) : (valB (putB 4 n) : Int) = n % 4294967296 := by
  have h0 := byte_at n 0
  have h1 := byte_at n 1
  have h2 := byte_at n 2
  have h3 := byte_at n 3
  simp at h0 h1 h2 h3
  simp [putB, valB, List.range_succ]
  omega
theorem get_put {k n : Int} (h : fitsF k n = true) : getF k (putF k n) = (n, 0) := by
  have hp : putF k n = putB (bytesN k) n := by unfold putF; rw [if_pos h]
  rw [hp]
  rcases kinds k with rfl | rfl | rfl | rfl | rfl | ⟨h1, h2, h3, h4, h5⟩
  · have hb : 0 ≤ n ∧ n ≤ 1 := by simpa [fitsF] using h
    have hv := val_1 n
    unfold getF
    rw [show bytesN 1 = 1 from rfl, if_neg (by decide), if_neg (by rw [putB_len]; simp), if_neg (by omega), hv]
    simp [wrapF]
    omega
  · have hb : -32768 ≤ n ∧ n ≤ 32767 := by simpa [fitsF] using h
    have hv := val_2 n
    unfold getF
    rw [show bytesN 2 = 2 from rfl, if_neg (by decide), if_neg (by rw [putB_len]; simp), if_neg (by simp), hv]
    simp [wrapF]
    omega
  · have hb : -2147483648 ≤ n ∧ n ≤ 2147483647 := by simpa [fitsF] using h
    have hv := val_4 n
    unfold getF
    rw [show bytesN 3 = 4 from rfl, if_neg (by decide), if_neg (by rw [putB_len]; simp), if_neg (by simp), hv]
    simp [wrapF]
    omega
  · have hb : 0 ≤ n ∧ n ≤ 65535 := by simpa [fitsF] using h
    have hv := val_2 n
    unfold getF
    rw [show bytesN 4 = 2 from rfl, if_neg (by decide), if_neg (by rw [putB_len]; simp), if_neg (by simp), hv]
    simp [wrapF]
    omega
  · have hb : 0 ≤ n ∧ n ≤ 4294967295 := by simpa [fitsF] using h
    have hv := val_4 n
    unfold getF
    rw [show bytesN 5 = 4 from rfl, if_neg (by decide), if_neg (by rw [putB_len]; simp), if_neg (by simp), hv]
    simp [wrapF]
    omega
  · exfalso
    simp only [beq_eq_false_iff_ne, ne_eq] at h1 h2 h3 h4 h5
    simp [fitsF, h1, h2, h3, h4, h5] at h
theorem wrap_fit {k n : Int} (h : fitsF k n = true) : wrapF k n = n := by
  rcases kinds k with rfl | rfl | rfl | rfl | rfl | ⟨h1, h2, h3, h4, h5⟩
  · have := fits_1 n; rw [h] at this; simpa using this
  · have := fits_2 n; rw [h] at this; simpa using this
  · have := fits_3 n; rw [h] at this; simpa using this
  · have := fits_4 n; rw [h] at this; simpa using this
  · have := fits_5 n; rw [h] at this; simpa using this
  · exfalso
    simp only [beq_eq_false_iff_ne, ne_eq] at h1 h2 h3 h4 h5
    simp [fitsF, h1, h2, h3, h4, h5] at h
set_option maxRecDepth 100000 in
set_option maxHeartbeats 6400000 in
theorem CellBack_law (k n : Int) (w : World) (hn : -9223372036854775808 ≤ n) (hn' : n ≤ 9223372036854775807) (hT : Lib.Utf8Tabs 2 3 w) (htab : TabX w) (hz : TzX w) :
    Calls Tryd.prog 4 #[.int .i64 k, .int .i64 n] w fun e w' => e = .returned (.bool true) ∧ Below w.heap.size w w' := by
  have h1 := fun W => Fits_any k n W hn hn'
  have h2 := fun W (hb : Below w.heap.size w W) => Show_any k n W hn hn' (tab_below htab hb) (tz_below hz hb)
  have h3 := fun W => Put_any k n W hn hn'
  have H2 := Lib.hid h2
  have HB0 := Lib.hid (Below.refl w.heap.size w)
  clear h2
  cases hf : fitsF k n with
  | false =>
    have h4 := fun W => Fits_any k 0 W (by omega) (by omega)
    have hs : strB (showF k n) = ⟨#[]⟩ := by unfold showF; simp [hf]
    have hp : putF k n = [] := by unfold putF; simp [hf]
    have hk : k < 1 ∨ 5 < k ∨ (1 ≤ k ∧ k ≤ 5 ∧ fitsF k 0 = true) := by
      rcases kinds k with rfl | rfl | rfl | rfl | rfl | ⟨a1, a2, a3, a4, a5⟩
      all_goals first
        | exact .inr (.inr ⟨by omega, by omega, by decide⟩)
        | (simp only [beq_eq_false_iff_ne, ne_eq] at a1 a2 a3 a4 a5; omega)
    rw [hf] at h1
    rw [hp] at h3
    rw [hs] at H2
    clear hs hp hf hT htab hz hn hn'
    rcases hk with hk | hk | ⟨hk1, hk2, hk3⟩
    · go_enter Tryd.func4, Tryd.ntmps4
      go_wp2_with first
        | (go_at_call 9; refine (h1 _).mono ?_; rintro e w9 ⟨rfl, rfl⟩)
        | (go_at_call 7; refine (H2.out _ HB0.out).mono ?_; rintro e w2 ⟨rfl, b2⟩; have B2 := Lib.hid b2; clear b2)
        | (go_at_call 10; refine (h3 _).mono ?_; rintro e w3 ⟨A, c, rfl, ho, b3⟩; have B3 := Lib.hid (B2.out.trans (b3.mono B2.out.size)); clear b3 ho)
      go_ret
      exact ⟨by first | rfl | simp, B3.out⟩
    · have hk0 : ¬ k < 1 := by omega
      go_enter Tryd.func4, Tryd.ntmps4
      go_wp2_with first
        | (go_at_call 9; refine (h1 _).mono ?_; rintro e w9 ⟨rfl, rfl⟩)
        | (go_at_call 7; refine (H2.out _ HB0.out).mono ?_; rintro e w2 ⟨rfl, b2⟩; have B2 := Lib.hid b2; clear b2)
        | (go_at_call 10; refine (h3 _).mono ?_; rintro e w3 ⟨A, c, rfl, ho, b3⟩; have B3 := Lib.hid (B2.out.trans (b3.mono B2.out.size)); clear b3 ho)
      go_ret
      exact ⟨by first | rfl | simp, B3.out⟩
    · have hk0 : ¬ k < 1 := by omega
      have hk5 : ¬ 5 < k := by omega
      rw [hk3] at h4
      go_enter Tryd.func4, Tryd.ntmps4
      go_wp2_with first
        | (go_at_call 7; refine (H2.out _ HB0.out).mono ?_; rintro e w2 ⟨rfl, b2⟩; have B2 := Lib.hid b2; clear b2 H2)
        | (go_at_call 10; refine (h3 _).mono ?_; rintro e w3 ⟨A, c, rfl, ho, b3⟩; have B3 := Lib.hid (B2.out.trans (b3.mono B2.out.size)); clear b3 ho)
        | (go_at_call 9; refine (h1 _).mono ?_; rintro e w9 ⟨rfl, rfl⟩; clear h1)
        | (go_at_call 9; refine (h4 _).mono ?_; rintro e w9 ⟨rfl, rfl⟩)
      go_ret
      exact ⟨by first | rfl | simp, B3.out⟩
  | true =>
    have hsl : (strB (showF k n)).size ≤ maxLen := by
      by_cases h40 : (showF k n).length ≤ 40
      · rw [strB_size]; unfold maxLen; omega
      · exfalso
        have := back_all hf
        unfold readF at this
        split at this
        · simp at this
        · rw [if_pos (by omega)] at this
          simp at this
    have h5 := fun W (hb : Below w.heap.size w W) => Read_any k (strB (showF k n)) W hsl (Utf8Tabs_below hT hb)
    rw [strB_data, back_all hf] at h5
    have h6 := fun (A : Option Addr) (c : Nat) (W : World) (hr : Rd W 1 A (putF k n).length (Byt.byts (putF k n))) => Get_any k A (putF k n).length c (putF k n) W hr (by unfold putF; rw [if_pos hf, putB_len]; unfold bytesN; (repeat' split) <;> omega)
    rw [get_put hf] at h6
    have h7 := fun W => Wrap_any k n W hn hn'
    rw [wrap_fit hf] at h7
    rw [hf] at h1
    generalize putF k n = P at h3 h6
    generalize strB (showF k n) = T at H2 h5
    have H5 := Lib.hid h5
    have H6 := Lib.hid h6
    have e1 : (n == n) = true := by simp
    clear hsl hf hT htab hz hn hn' h5 h6
    go_enter Tryd.func4, Tryd.ntmps4
    go_wp2_with first
      | (go_at_call 9; refine (h1 _).mono ?_; rintro e w9 ⟨rfl, rfl⟩)
      | (go_at_call 7; refine (H2.out _ HB0.out).mono ?_; rintro e w2 ⟨rfl, b2⟩; have B2 := Lib.hid b2; clear b2 H2)
      | (go_at_call 5; refine (H5.out _ B2.out).mono ?_; rintro e w3 ⟨rfl, b3⟩; have B3 := Lib.hid (B2.out.trans (b3.mono B2.out.size)); clear b3 H5)
      | (go_at_call 10; refine (h3 _).mono ?_; rintro e w4 ⟨A, c, rfl, ho, b4⟩; have B4 := Lib.hid (B3.out.trans (b4.mono B3.out.size)); have HO := Lib.hid (Rd.own ho); clear b4 ho)
      | (go_at_call 11; refine (H6.out _ _ _ HO.out).mono ?_; rintro e w5 ⟨rfl, hw5⟩; subst hw5)
      | (go_at_call 12; refine (h7 _).mono ?_; rintro e w6 ⟨rfl, rfl⟩)
    go_ret
    exact ⟨by first | rfl | simp, B4.out⟩
theorem walk_Back (H : Type) (_enc : TypeId × Value → H) (w : World) (hL : laidMetH Tryd.prog Rows.cellBackRow.laid w) (k : Int) (_hk : (Lit.int .i64 k).wf = true) (n : Int) (hn : (Lit.int .i64 n).wf = true) :
    Calls Tryd.prog 4 #[.int .i64 k, .int .i64 n] w fun e w' => e = .returned (.bool true) ∧ Below w.heap.size w w' := by
  obtain ⟨h1, h2, h3⟩ := laid_all (W := w) hL
  have hb : -9223372036854775808 ≤ n ∧ n ≤ 9223372036854775807 := by simpa [Lit.wf, IntKind.min, IntKind.max, IntKind.signed, IntKind.bits] using hn
  exact CellBack_law k n w hb.1 hb.2 h2 h1 h3
end Go.Proofs.YtckjnlonijodcaaDoor.Tx
