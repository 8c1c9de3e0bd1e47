/-
  The program's Show; the law CellTexts. Conditions: the tables of UTF-8, of powers of ten and of trailing noughts as they are laid.
-/
import Derived.Test.YtckjnlonijodcaaDoorTxI
namespace Go.Proofs.YtckjnlonijodcaaDoor.Tx
open Go.RowKit Go.Proofs.YtckjnlonijodcaaDoor.W Go.Proofs.YtckjnlonijodcaaDoor.Num Go.Proofs.YtckjnlonijodcaaDoor.Cell

abbrev TzX (w : World) : Prop := w.cell? ⟨6, 15, none⟩ = some (.int .u8 4)
theorem tz_below {w w' : World} (h : TzX w) (hb : Below w.heap.size w w') : TzX w' := (hb.cell (p := ⟨6, 15, none⟩) (lt_of_cell h)).trans h
theorem Upper_any (u : Nat) (w : World) (hu : u ≤ 65535) : Calls Tryd.prog 27 #[.string (strB (lexU u))] w fun e w' => e = .returned (.string (strB (hexU u))) ∧ Below w.heap.size w w' := by
  have := Tryd.strings_ToUpper_ascii (strB (lexU u)) w (by rw [strB_size, lex_len]; have := hex_len hu; omega) (fun j b h => by rw [strB_data] at h; exact (lex_up u).2 b (List.mem_of_getElem? h))
  rw [strB_data] at this
  rw [← (lex_up u).1]
  exact this
theorem Itoa_any (n : Int) (w : World) (h0 : -9223372036854775808 ≤ n) (h1 : n ≤ 9223372036854775807) (htab : TabX w) : Calls Tryd.prog 30 #[.int .i64 n] w fun e w' => e = .returned (.string (strB (Go.Lib.itoa n))) ∧ Below w.heap.size w w' :=
  (Tryd.strconv_Itoa n h0 h1 w htab).mono fun _ _ ⟨he, k, os, hw⟩ => ⟨he, hw ▸ Lib.below_grow _ w (Nat.le_refl _) k os⟩
theorem pshow_none (k n : Int) (w : World) (hn : -9223372036854775808 ≤ n) (hn' : n ≤ 9223372036854775807) (h : fitsF k n = false) : Calls Tryd.prog 7 #[.int .i64 k, .int .i64 n] w fun e w' => e = .returned (.string (strB [])) ∧ Below w.heap.size w w' := by
  have hf := fun W => Fits_any k n W hn hn'
  rw [h] at hf
  clear h
  go_enter Tryd.func7, Tryd.ntmps7
  go_wp2_with (go_at_call 9; refine (hf _).mono ?_; rintro e w9 ⟨rfl, rfl⟩)
  go_ret
  exact ⟨rfl, Below.refl _ _⟩
theorem pshow_1 (n : Int) (w : World) (h : n = 0 ∨ n = 1) : Calls Tryd.prog 7 #[.int .i64 1, .int .i64 n] w fun e w' => e = .returned (.string (strB (if n = 0 then [70, 65, 76, 83, 69] else [84, 82, 85, 69]))) ∧ Below w.heap.size w w' := by
  rcases h with rfl | rfl
  · have hf := fun W => Fits_any 1 0 W (by omega) (by omega)
    rw [show fitsF 1 0 = true from by decide] at hf
    go_enter Tryd.func7, Tryd.ntmps7
    go_wp2_with (go_at_call 9; refine (hf _).mono ?_; rintro e w9 ⟨rfl, rfl⟩)
    go_ret
    exact ⟨rfl, Below.refl _ _⟩
  · have hf := fun W => Fits_any 1 1 W (by omega) (by omega)
    rw [show fitsF 1 1 = true from by decide] at hf
    go_enter Tryd.func7, Tryd.ntmps7
    go_wp2_with (go_at_call 9; refine (hf _).mono ?_; rintro e w9 ⟨rfl, rfl⟩)
    go_ret
    exact ⟨rfl, Below.refl _ _⟩
theorem pshow_2 (n : Int) (w : World) (hn : -9223372036854775808 ≤ n) (hn' : n ≤ 9223372036854775807) (h : fitsF 2 n = true) (htab : TabX w) : Calls Tryd.prog 7 #[.int .i64 2, .int .i64 n] w fun e w' => e = .returned (.string (strB (Go.Lib.itoa n))) ∧ Below w.heap.size w w' := by
  have hf := fun W => Fits_any 2 n W hn hn'
  rw [h] at hf
  have hd := Itoa_any n w hn hn' htab
  clear h htab
  go_enter Tryd.func7, Tryd.ntmps7
  go_wp2_with first
    | (go_at_call 9; refine (hf _).mono ?_; rintro e w9 ⟨rfl, rfl⟩)
    | (go_at_call 30; refine hd.mono ?_; rintro e w9 ⟨rfl, hb⟩)
  go_ret
  exact ⟨rfl, hb⟩
theorem pshow_3 (n : Int) (w : World) (hn : -9223372036854775808 ≤ n) (hn' : n ≤ 9223372036854775807) (h : fitsF 3 n = true) (htab : TabX w) : Calls Tryd.prog 7 #[.int .i64 3, .int .i64 n] w fun e w' => e = .returned (.string (strB (Go.Lib.itoa n))) ∧ Below w.heap.size w w' := by
  have hf := fun W => Fits_any 3 n W hn hn'
  rw [h] at hf
  have hd := Itoa_any n w hn hn' htab
  clear h htab
  go_enter Tryd.func7, Tryd.ntmps7
  go_wp2_with first
    | (go_at_call 9; refine (hf _).mono ?_; rintro e w9 ⟨rfl, rfl⟩)
    | (go_at_call 30; refine hd.mono ?_; rintro e w9 ⟨rfl, hb⟩)
  go_ret
  exact ⟨rfl, hb⟩
theorem pshow_4 (n : Nat) (w : World) (h : n ≤ 65535) (hz : TzX w) : Calls Tryd.prog 7 #[.int .i64 4, .int .i64 (n : Int)] w fun e w' => e = .returned (.string (strB ([49, 54, 35] ++ hexU n))) ∧ Below w.heap.size w w' := by
  have hf := fun W => Fits_any 4 (n : Int) W (by omega) (by omega)
  rw [show fitsF 4 (n : Int) = true from by simp [fitsF]; omega] at hf
  have hd := FormatInt_16 n w h hz
  have hu := fun W => Upper_any n W h
  have hl := hex_len h
  have HR : Hid (strB [49, 54, 35] ++ strB (hexU n) = strB ([49, 54, 35] ++ hexU n)) := Lib.hid (app_str _ _)
  obtain ⟨lx, hlx⟩ : ∃ lx, strB (lexU n) = lx := ⟨_, rfl⟩
  obtain ⟨hx, hhx⟩ : ∃ hx, strB (hexU n) = hx := ⟨_, rfl⟩
  have hsz : hx.size ≤ 4 := by rw [← hhx, strB_size]; exact hl
  rw [hhx] at HR
  rw [hlx] at hd
  rw [hlx, hhx] at hu
  clear hl hlx hhx hz
  go_enter Tryd.func7, Tryd.ntmps7
  go_wp2_with first
    | (go_at_call 9; refine (hf _).mono ?_; rintro e w9 ⟨rfl, rfl⟩)
    | (go_at_call 28; refine hd.mono ?_; rintro e w1 ⟨rfl, hb⟩; have HB := Lib.hid hb; clear hb)
    | (go_at_call 27; refine (hu _).mono ?_; rintro e w2 ⟨rfl, hb2⟩; have HB2 := Lib.hid (HB.out.trans (hb2.mono HB.out.size)); clear hb2)
  go_ret
  exact ⟨ret_str HR.out, HB2.out⟩
theorem pshow_5 (n : Nat) (w : World) (h : n ≤ 4294967295) (htab : TabX w) : Calls Tryd.prog 7 #[.int .i64 5, .int .i64 (n : Int)] w fun e w' => e = .returned (.string (strB (timeS n))) ∧ Below w.heap.size w w' := by
  have hf := fun W => Fits_any 5 (n : Int) W (by omega) (by omega)
  rw [show fitsF 5 (n : Int) = true from by simp [fitsF]; omega] at hf
  have hd := showTime_any n w h htab
  clear htab
  go_enter Tryd.func7, Tryd.ntmps7
  go_wp2_with first
    | (go_at_call 9; refine (hf _).mono ?_; rintro e w9 ⟨rfl, rfl⟩)
    | (go_at_call 29; refine hd.mono ?_; rintro e w9 ⟨rfl, hb⟩)
  go_ret
  exact ⟨rfl, hb⟩
theorem Show_any (k n : Int) (w : World) (hn : -9223372036854775808 ≤ n) (hn' : n ≤ 9223372036854775807) (htab : TabX w) (hz : TzX w) : Calls Tryd.prog 7 #[.int .i64 k, .int .i64 n] w fun e w' => e = .returned (.string (strB (showF k n))) ∧ Below w.heap.size w w' := by
  cases hf : fitsF k n with
  | false =>
    rw [show showF k n = [] from by unfold showF; simp [hf]]
    exact pshow_none k n w hn hn' hf
  | true =>
    rcases kinds k with rfl | rfl | rfl | rfl | rfl | ⟨h1, h2, h3, h4, h5⟩
    · have hn : n = 0 ∨ n = 1 := by simp [fitsF] at hf; omega
      rw [show showF 1 n = if n = 0 then [70, 65, 76, 83, 69] else [84, 82, 85, 69] from by unfold showF; simp [hf]]
      exact pshow_1 n w hn
    · rw [show showF 2 n = Go.Lib.itoa n from by unfold showF; simp [hf]]
      exact pshow_2 n w hn hn' hf htab
    · rw [show showF 3 n = Go.Lib.itoa n from by unfold showF; simp [hf]]
      exact pshow_3 n w hn hn' hf htab
    · obtain ⟨m, rfl⟩ : ∃ m : Nat, n = (m : Int) := ⟨n.toNat, by simp [fitsF] at hf; omega⟩
      rw [show showF 4 (m : Int) = [49, 54, 35] ++ hexU m from by unfold showF; simp [hf]]
      exact pshow_4 m w (by simp [fitsF] at hf; omega) hz
    · obtain ⟨m, rfl⟩ : ∃ m : Nat, n = (m : Int) := ⟨n.toNat, by simp [fitsF] at hf; omega⟩
      rw [show showF 5 (m : Int) = timeS m from by unfold showF; simp [hf]]
      exact pshow_5 m w (by simp [fitsF] at hf; omega) htab
    · exfalso
      simp only [beq_eq_false_iff_ne, ne_eq] at h1 h2 h3 h4 h5
      simp [fitsF, h1, h2, h3, h4, h5] at hf
theorem CellTexts_law (k n : Int) (s : ByteArray) (w : World) (hn : -9223372036854775808 ≤ n) (hn' : n ≤ 9223372036854775807) (hs : s.size ≤ maxLen) (hT : Lib.Utf8Tabs 2 3 w) (htab : TabX w) (hz : TzX w) :
    Calls Tryd.prog 3 #[.int .i64 k, .int .i64 n, .string s] w fun e w' => e = .returned (.bool true) ∧ Below w.heap.size w w' := by
  have h1 := Read_any k s w hs hT
  have h2 := fun W => ReadValue_any k s W hs
  have h3 : ∀ W, Below w.heap.size w W → Calls Tryd.prog 7 #[.int .i64 k, .int .i64 n] W fun e w' => e = .returned (.string (strB (showF k n))) ∧ Below W.heap.size W w' := fun W hb => Show_any k n W hn hn' (tab_below htab hb) (tz_below hz hb)
  have h4 := fun W => ShowValue_any k n W
  generalize readF k s.data.toList = R at h1 h2
  obtain ⟨r1, r2⟩ := R
  generalize strB (showF k n) = T at h3 h4
  have H3 := Lib.hid h3
  clear h3 hT htab hz hs hn hn'
  have hb0 := Lib.hid (Below.refl w.heap.size w)
  have e1 : (r1 == r1) = true := by simp
  have e2 : (r2 == r2) = true := by simp
  have e3 : (T.toList == T.toList) = true := by simp
  go_enter Tryd.func3, Tryd.ntmps3
  go_wp2_with first
    | (go_at_call 5; refine h1.mono ?_; rintro e w1 ⟨rfl, b1⟩; have B1 := Lib.hid b1; clear b1 h1)
    | (go_at_call 6; refine (h2 _).mono ?_; rintro e w2 ⟨rfl, b2⟩; have B2 := Lib.hid (B1.out.trans (b2.mono B1.out.size)); clear b2 h2)
    | (go_at_call 7; refine (H3.out _ B2.out).mono ?_; rintro e w3 ⟨rfl, b3⟩; have B3 := Lib.hid (B2.out.trans (b3.mono B2.out.size)); clear b3)
    | (go_at_call 8; refine (h4 _).mono ?_; rintro e w4 ⟨rfl, b4⟩; have B4 := Lib.hid (B3.out.trans (b4.mono B3.out.size)); clear b4 h4)
  go_ret
  exact ⟨by first | rfl | simp, B4.out⟩
end Go.Proofs.YtckjnlonijodcaaDoor.Tx
