/-
  What is shown of values, in plain words; the reference's ShowValue but for times. No conditions but that the number fits a machine.
-/
import Derived.Test.YtckjnlonijodcaaDoorTxD
namespace Go.Proofs.YtckjnlonijodcaaDoor.Tx
open Go.RowKit Go.Proofs.YtckjnlonijodcaaDoor.W Go.Proofs.YtckjnlonijodcaaDoor.Num Go.Proofs.YtckjnlonijodcaaDoor.Cell

theorem ret_str {a b : ByteArray} (h : a = b) : Ending.returned (.string a) = Ending.returned (.string b) := by rw [h]
/-- a great hexadecimal digit -/
def hexD (d : Nat) : UInt8 := if d < 10 then UInt8.ofNat (48 + d) else UInt8.ofNat (55 + d)
/-- a number's hexadecimal digits -/
def hexU (u : Nat) : List UInt8 := if _h : u < 16 then [hexD u] else hexU (u / 16) ++ [hexD (u % 16)]
termination_by u
decreasing_by omega
theorem hex_one {u : Nat} (h : u < 16) : hexU u = [hexD u] := by rw [hexU, dif_pos h]
theorem hex_more {u : Nat} (h : ¬ u < 16) : hexU u = hexU (u / 16) ++ [hexD (u % 16)] := by rw [hexU, dif_neg h]
def partF (q : Nat) (u : List UInt8) : List UInt8 := if 0 < q then Go.Lib.decDigits q ++ u else []
def timeS (n : Nat) : List UInt8 := [84, 35] ++ (if n = 0 then [48, 109, 115] else partF (n / 86400000) [100] ++ (partF (n / 3600000 % 24) [104] ++ (partF (n / 60000 % 60) [109] ++ (partF (n / 1000 % 60) [115] ++ partF (n % 1000) [109, 115]))))
def showF (k n : Int) : List UInt8 :=
  if fitsF k n then (if k = 1 then (if n = 0 then [70, 65, 76, 83, 69] else [84, 82, 85, 69]) else if k = 4 then [49, 54, 35] ++ hexU n.toNat else if k = 5 then timeS n.toNat else Go.Lib.itoa n) else []
def digits16 : ByteArray := { data := #[48, 49, 50, 51, 52, 53, 54, 55, 56, 57, 65, 66, 67, 68, 69, 70] }
theorem dig16 : ∀ d : Fin 16, (digits16.extract d.val (d.val + 1)) = strB [hexD d.val] := by decide
theorem hex_dig {d : Nat} (h : d < 16) : digits16.extract d (d + 1) = strB [hexD d] := dig16 ⟨d, h⟩
def HexI (R : List UInt8) (n s : Value) : Prop := ∃ (m : Nat) (l : List UInt8), m ≤ 65535 ∧ l.length + (hexU m).length ≤ 5 ∧ n = .int .i64 (m : Int) ∧ s = .string (strB l) ∧ hexU m ++ l = R
theorem hex_len {u : Nat} (h : u ≤ 65535) : (hexU u).length ≤ 4 := by
  by_cases h1 : u < 16
  · rw [hex_one h1]; simp
  · rw [hex_more h1]
    by_cases h2 : u / 16 < 16
    · rw [hex_one h2]; simp
    · rw [hex_more h2]
      by_cases h3 : u / 16 / 16 < 16
      · rw [hex_one h3]; simp
      · rw [hex_more h3, hex_one (by omega)]; simp
set_option maxRecDepth 100000 in
set_option maxHeartbeats 6400000 in
theorem show_4 (n : Nat) (w : World) (h : n ≤ 65535) : Calls Tryd.prog 8 #[.int .i64 4, .int .i64 (n : Int)] w fun e w' => e = .returned (.string (strB ([49, 54, 35] ++ hexU n))) ∧ Below w.heap.size w w' := by
  have HI : Hid (HexI (hexU n) (.int .i64 (n : Int)) (.string { data := #[] })) := Lib.hid ⟨n, [], h, by have := hex_len h; simp; omega, rfl, rfl, by simp⟩
  have hfit : fitsF 4 (n : Int) = true := by simp [fitsF]; omega
  have HF := Lib.hid hfit
  clear hfit
  generalize hexU n = R at HI ⊢
  have hf := fun W => FitsR_any 4 (n : Int) W
  rw [HF.out] at hf
  go_enter Tryd.func8, Tryd.ntmps8
  go_wp2_with (go_at_call 26; refine (hf _).mono ?_; rintro e w9 ⟨rfl, rfl⟩)
  go_loop [1, 5] (fun n s => Hid (HexI R n s)) (fun n _ => (intOf n).toNat)
  case atStart => exact HI
  case round =>
    obtain ⟨m, l, hm, hl, rfl, rfl, hR⟩ := hrel.out
    have HRR := Lib.hid hR
    obtain ⟨d, hd⟩ : ∃ d, m % 16 = d := ⟨_, rfl⟩
    have hd0 : d < 16 := by omega
    clear hR HI
    have hdx : ({ data := #[48, 49, 50, 51, 52, 53, 54, 55, 56, 57, 65, 66, 67, 68, 69, 70] } : ByteArray).extract d (d + 1) ++ strB l = strB (hexD d :: l) := by
      rw [show ({ data := #[48, 49, 50, 51, 52, 53, 54, 55, 56, 57, 65, 66, 67, 68, 69, 70] } : ByteArray).extract d (d + 1) = strB [hexD d] from hex_dig hd0, app_str]
      rfl
    have HDX := Lib.hid hdx
    clear hdx
    by_cases h16 : m < 16
    · have hb : ((m : Int) / 16 == 0) = true := by simp; omega
      have hR : Hid (strB [49, 54, 35] ++ strB (hexD d :: l) = strB ([49, 54, 35] ++ R)) := Lib.hid (by rw [app_str, ← HRR.out, hex_one h16, ← hd, Nat.mod_eq_of_lt h16]; rfl)
      clear h16
      go_wp2
      go_ret
      exact ⟨ret_str ((congrArg (fun t => strB [49, 54, 35] ++ t) HDX.out).trans hR.out), Below.refl _ _⟩
    · have hb : ((m : Int) / 16 == 0) = false := by simp; omega
      have HN : Hid (HexI R (.int .i64 ((m : Int) / 16)) (.string (strB (hexD d :: l)))) := Lib.hid ⟨m / 16, hexD d :: l, by omega, by
        have := hex_more h16
        rw [this, List.length_append] at hl
        simp at hl ⊢
        omega, by rw [Int.natCast_ediv]; rfl, rfl, by
        rw [← HRR.out, hex_more h16, ← hd, List.append_assoc]
        rfl⟩
      go_wp2
      go_round
      case rel => rw [HDX.out]; exact HN
      case measure => simp [intOf]; omega
theorem show_none (k n : Int) (w : World) (h : fitsF k n = false) : Calls Tryd.prog 8 #[.int .i64 k, .int .i64 n] w fun e w' => e = .returned (.string (strB [])) ∧ Below w.heap.size w w' := by
  have hf := fun W => FitsR_any k n W
  rw [h] at hf
  go_enter Tryd.func8, Tryd.ntmps8
  go_wp2_with (go_at_call 26; refine (hf _).mono ?_; rintro e w9 ⟨rfl, rfl⟩)
  go_ret
  exact ⟨rfl, Below.refl _ _⟩
theorem show_1 (n : Int) (w : World) (h : n = 0 ∨ n = 1) : Calls Tryd.prog 8 #[.int .i64 1, .int .i64 n] w fun e w' => e = .returned (.string (strB (if n = 0 then [70, 65, 76, 83, 69] else [84, 82, 85, 69]))) ∧ Below w.heap.size w w' := by
  rcases h with rfl | rfl
  · have hf := fun W => FitsR_any 1 0 W
    rw [show fitsF 1 0 = true from by decide] at hf
    go_enter Tryd.func8, Tryd.ntmps8
    go_wp2_with (go_at_call 26; refine (hf _).mono ?_; rintro e w9 ⟨rfl, rfl⟩)
    go_ret
    exact ⟨rfl, Below.refl _ _⟩
  · have hf := fun W => FitsR_any 1 1 W
    rw [show fitsF 1 1 = true from by decide] at hf
    go_enter Tryd.func8, Tryd.ntmps8
    go_wp2_with (go_at_call 26; refine (hf _).mono ?_; rintro e w9 ⟨rfl, rfl⟩)
    go_ret
    exact ⟨rfl, Below.refl _ _⟩
theorem show_2 (n : Int) (w : World) (h : fitsF 2 n = true) : Calls Tryd.prog 8 #[.int .i64 2, .int .i64 n] w fun e w' => e = .returned (.string (strB (Go.Lib.itoa n))) ∧ Below w.heap.size w w' := by
  have hf := fun W => FitsR_any 2 n W
  rw [h] at hf
  have hd := fun W => Decimal_any n W (by simp [fitsF] at h; omega) (by simp [fitsF] at h; omega)
  clear h
  go_enter Tryd.func8, Tryd.ntmps8
  go_wp2_with first
    | (go_at_call 26; refine (hf _).mono ?_; rintro e w9 ⟨rfl, rfl⟩)
    | (go_at_call 31; refine (hd _).mono ?_; rintro e w9 ⟨rfl, hb⟩)
  go_ret
  exact ⟨rfl, hb⟩
theorem show_3 (n : Int) (w : World) (h : fitsF 3 n = true) : Calls Tryd.prog 8 #[.int .i64 3, .int .i64 n] w fun e w' => e = .returned (.string (strB (Go.Lib.itoa n))) ∧ Below w.heap.size w w' := by
  have hf := fun W => FitsR_any 3 n W
  rw [h] at hf
  have hd := fun W => Decimal_any n W (by simp [fitsF] at h; omega) (by simp [fitsF] at h; omega)
  clear h
  go_enter Tryd.func8, Tryd.ntmps8
  go_wp2_with first
    | (go_at_call 26; refine (hf _).mono ?_; rintro e w9 ⟨rfl, rfl⟩)
    | (go_at_call 31; refine (hd _).mono ?_; rintro e w9 ⟨rfl, hb⟩)
  go_ret
  exact ⟨rfl, hb⟩
end Go.Proofs.YtckjnlonijodcaaDoor.Tx
