/-
  The program's Read: what any text says of any kind. Conditions: the tables of UTF-8 as they are laid; that the text fits a machine.
-/
import Derived.Test.YtckjnlonijodcaaDoorTxA
import Derived.Lib.QuoteLoop
namespace Go.Proofs.YtckjnlonijodcaaDoor.Tx
open Go.RowKit Go.Proofs.YtckjnlonijodcaaDoor.W Go.Proofs.YtckjnlonijodcaaDoor.Num Go.Proofs.YtckjnlonijodcaaDoor.Cell

/-- what is answered behind a value's reading -/
def endF (k : Int) (o : Option Int) : Int × Int := match o with | none => (0, 1) | some v => if fitsF k v then (v, 0) else (0, 3)
theorem end_yes {k v : Int} (h : fitsF k v = true) : endF k (some v) = (v, 0) := by simp [endF, h]
theorem end_no {k v : Int} (h : fitsF k v = false) : endF k (some v) = (0, 3) := by simp [endF, h]
theorem ret_two {a b c : Int} (h : a = b) : Ending.returned (.tuple #[.int .i64 a, .int .i64 c]) = .returned (.tuple #[.int .i64 b, .int .i64 c]) := by rw [h]
theorem fit_cap {k : Int} {n V : Nat} (h : capR n V) : fitsF k (n : Int) = fitsF k (V : Int) ∧ (fitsF k (V : Int) = true → (n : Int) = V) := by
  unfold capR at h
  unfold fitsF
  rcases Nat.lt_or_ge 4294967295 V with h1 | h1
  · have h2 := h.2.1 (by omega)
    repeat' split
    all_goals first
      | (constructor
         · rw [Bool.eq_iff_iff]; simp only [decide_eq_true_eq]; omega
         · simp only [decide_eq_true_eq]; omega)
      | exact ⟨rfl, fun h => by cases h⟩
  · rw [h.1 h1]
    exact ⟨rfl, fun _ => rfl⟩
theorem fit_neg {k : Int} {n V : Nat} (h : capR n V) : fitsF k (-(n : Int)) = fitsF k (-(V : Int)) ∧ (fitsF k (-(V : Int)) = true → -(n : Int) = -(V : Int)) := by
  unfold capR at h
  unfold fitsF
  rcases Nat.lt_or_ge 4294967295 V with h1 | h1
  · have h2 := h.2.1 (by omega)
    repeat' split
    all_goals first
      | (constructor
         · rw [Bool.eq_iff_iff]; simp only [decide_eq_true_eq]; omega
         · simp only [decide_eq_true_eq]; omega)
      | exact ⟨rfl, fun h => by cases h⟩
  · rw [h.1 h1]
    exact ⟨rfl, fun _ => rfl⟩
theorem val_neg {k : Int} {l : List UInt8} {o : Option Nat} (h1 : k ≠ 1) (h5 : k ≠ 5) (h4 : k ≠ 4) (hN : numF l = none) (hP : [45].isPrefixOf l = true) (hX : digF 10 (l.drop 1) 0 false = o) : valF k l = o.map fun v => -(v : Int) := by
  unfold valF
  rw [if_neg h1, if_neg h5, hN]
  simp only
  rw [if_pos ⟨h4, hP⟩, hX]
theorem truth_1 (w : World) : Calls Tryd.prog 15 #[.bool true] w fun e w' => e = .returned (.int .i64 1) ∧ w' = w := by
  go_enter Tryd.func15, Tryd.ntmps15
  go_wp2
  go_ret
  exact ⟨rfl, rfl⟩
theorem truth_0 (w : World) : Calls Tryd.prog 15 #[.bool false] w fun e w' => e = .returned (.int .i64 0) ∧ w' = w := by
  go_enter Tryd.func15, Tryd.ntmps15
  go_wp2
  go_ret
  exact ⟨rfl, rfl⟩
/-- reading of kind 2 -/
theorem read_2 (s : ByteArray) (w : World) (hs : s.size ≤ 40) (sl : ByteArray) (hsz : sl.size ≤ 1000) (hlow : ∀ W, Below w.heap.size w W → Calls Tryd.prog 14 #[.string s] W fun e w' => e = .returned (.string sl) ∧ Below W.heap.size W w') :
    Calls Tryd.prog 5 #[.int .i64 2, .string s] w fun e w' => e = .returned (.tuple #[.int .i64 (endF 2 (valF 2 sl.data.toList)).1, .int .i64 (endF 2 (valF 2 sl.data.toList)).2]) ∧ Below w.heap.size w w' := by
  have hnum := fun W => number_any sl W (by unfold maxLen; omega)
  have h40 : ¬ (40 : Int) < (s.size : Int) := by omega
  cases hN : numF sl.data.toList with
  | some V =>
    have HV : Hid (valF 2 sl.data.toList = some (V : Int)) := Lib.hid (by unfold valF; simp [hN])
    rw [hN] at hnum
    clear hN
    cases hB : fitsF 2 (V : Int)
    · go_enter Tryd.func5, Tryd.ntmps5
      go_wp2_with first
        | (go_at_call 13; refine (widthC_2 _).mono ?_; rintro e w9 ⟨rfl, rfl⟩)
        | (go_at_call 14; refine (hlow _ (Below.refl _ _)).mono ?_; rintro e w1 ⟨rfl, hb1⟩; have HB := Lib.hid hb1; clear hb1 hlow)
        | (go_at_call 17; refine (hnum _).mono ?_; rintro e w2 ⟨⟨n, hn, rfl, hv⟩, rfl⟩; have hcap : capR n V := (hv V rfl) ▸ cap_lid V; have HFT := Lib.hid (fit_cap (k := 2) hcap); have hnb : n ≤ 1099511627776 := hn; clear hn hv hcap)
        | (go_at_call 9; refine (Fits_any 2 _ _ (by omega) (by omega)).mono ?_; rintro e w9 ⟨rfl, rfl⟩; rw [HFT.out.1, hB])
      go_ret2
      exact ⟨by rw [HV.out, end_no hB]; rfl, HB.out⟩
    · go_enter Tryd.func5, Tryd.ntmps5
      go_wp2_with first
        | (go_at_call 13; refine (widthC_2 _).mono ?_; rintro e w9 ⟨rfl, rfl⟩)
        | (go_at_call 14; refine (hlow _ (Below.refl _ _)).mono ?_; rintro e w1 ⟨rfl, hb1⟩; have HB := Lib.hid hb1; clear hb1 hlow)
        | (go_at_call 17; refine (hnum _).mono ?_; rintro e w2 ⟨⟨n, hn, rfl, hv⟩, rfl⟩; have hcap : capR n V := (hv V rfl) ▸ cap_lid V; have HFT := Lib.hid (fit_cap (k := 2) hcap); have hnb : n ≤ 1099511627776 := hn; clear hn hv hcap)
        | (go_at_call 9; refine (Fits_any 2 _ _ (by omega) (by omega)).mono ?_; rintro e w9 ⟨rfl, rfl⟩; rw [HFT.out.1, hB])
      go_ret2
      exact ⟨by rw [HV.out, end_yes hB]; exact ret_two (HFT.out.2 hB), HB.out⟩
  | none =>
    rw [hN] at hnum
    have hhas := fun W => has_any sl [45] W
    cases hP : [45].isPrefixOf sl.data.toList with
    | false =>
      have HV : Hid (valF 2 sl.data.toList = none) := Lib.hid (by unfold valF; simp [hN, hP])
      rw [hP] at hhas
      clear hN hP
      go_enter Tryd.func5, Tryd.ntmps5
      go_wp2_with first
        | (go_at_call 13; refine (widthC_2 _).mono ?_; rintro e w9 ⟨rfl, rfl⟩)
        | (go_at_call 14; refine (hlow _ (Below.refl _ _)).mono ?_; rintro e w1 ⟨rfl, hb1⟩; have HB := Lib.hid hb1; clear hb1 hlow)
        | (go_at_call 17; refine (hnum _).mono ?_; rintro e w2 ⟨⟨n, hn, rfl, hv⟩, rfl⟩; have hnb : n ≤ 1099511627776 := hn; clear hv hn)
        | (go_at_call 18; refine (hhas _).mono ?_; rintro e w3 ⟨rfl, rfl⟩)
      go_ret2
      exact ⟨by rw [HV.out]; rfl, HB.out⟩
    | true =>
      have hsl1 : 1 ≤ sl.size := pre_len hP
      have hdig := fun W => digits_any (sl.extract 1 sl.size) 10 W (by omega) (by omega) (by unfold maxLen; rw [← size_data, Go.Lib.extract_data, List.length_take, List.length_drop, size_data]; omega)
      rw [Go.Lib.extract_data, List.take_of_length_le (by rw [List.length_drop, size_data]; omega)] at hdig
      rw [hP] at hhas
      cases hX : digF 10 (sl.data.toList.drop 1) 0 false with
      | none =>
        have HV : Hid (valF 2 sl.data.toList = none) := Lib.hid (val_neg (by decide) (by decide) (by decide) hN hP hX)
        rw [hX] at hdig
        clear hN hP hX
        go_enter Tryd.func5, Tryd.ntmps5
        go_wp2_with first
          | (go_at_call 13; refine (widthC_2 _).mono ?_; rintro e w9 ⟨rfl, rfl⟩)
          | (go_at_call 14; refine (hlow _ (Below.refl _ _)).mono ?_; rintro e w1 ⟨rfl, hb1⟩; have HB := Lib.hid hb1; clear hb1 hlow)
          | (go_at_call 17; refine (hnum _).mono ?_; rintro e w2 ⟨⟨n, hn, rfl, hv⟩, rfl⟩; have hnb : n ≤ 1099511627776 := hn; clear hv hn)
          | (go_at_call 18; refine (hhas _).mono ?_; rintro e w3 ⟨rfl, rfl⟩)
          | (go_at_call 19; refine (hdig _).mono ?_; rintro e w3 ⟨⟨m, hm, rfl, hv⟩, rfl⟩; have hmb : m ≤ 1099511627776 := hm; clear hm hv)
        go_ret2
        exact ⟨by rw [HV.out]; rfl, HB.out⟩
      | some V =>
        have HV : Hid (valF 2 sl.data.toList = some (-(V : Int))) := Lib.hid (val_neg (by decide) (by decide) (by decide) hN hP hX)
        rw [hX] at hdig
        clear hN hP hX
        cases hB : fitsF 2 (-(V : Int))
        · go_enter Tryd.func5, Tryd.ntmps5
          go_wp2_with first
            | (go_at_call 13; refine (widthC_2 _).mono ?_; rintro e w9 ⟨rfl, rfl⟩)
            | (go_at_call 14; refine (hlow _ (Below.refl _ _)).mono ?_; rintro e w1 ⟨rfl, hb1⟩; have HB := Lib.hid hb1; clear hb1 hlow)
            | (go_at_call 17; refine (hnum _).mono ?_; rintro e w2 ⟨⟨n, hn, rfl, hv⟩, rfl⟩; have hnb : n ≤ 1099511627776 := hn; clear hv hn)
            | (go_at_call 18; refine (hhas _).mono ?_; rintro e w3 ⟨rfl, rfl⟩)
            | (go_at_call 19; refine (hdig _).mono ?_; rintro e w3 ⟨⟨m, hm, rfl, hv⟩, rfl⟩; have hcap : capR m V := (hv V rfl) ▸ cap_lid V; have HFT := Lib.hid (fit_neg (k := 2) hcap); have hmb : m ≤ 1099511627776 := hm; clear hm hv hcap)
            | (go_at_call 9; refine (Fits_any 2 _ _ (by omega) (by omega)).mono ?_; rintro e w9 ⟨rfl, rfl⟩; rw [HFT.out.1, hB])
          go_ret2
          exact ⟨by rw [HV.out, end_no hB]; rfl, HB.out⟩
        · go_enter Tryd.func5, Tryd.ntmps5
          go_wp2_with first
            | (go_at_call 13; refine (widthC_2 _).mono ?_; rintro e w9 ⟨rfl, rfl⟩)
            | (go_at_call 14; refine (hlow _ (Below.refl _ _)).mono ?_; rintro e w1 ⟨rfl, hb1⟩; have HB := Lib.hid hb1; clear hb1 hlow)
            | (go_at_call 17; refine (hnum _).mono ?_; rintro e w2 ⟨⟨n, hn, rfl, hv⟩, rfl⟩; have hnb : n ≤ 1099511627776 := hn; clear hv hn)
            | (go_at_call 18; refine (hhas _).mono ?_; rintro e w3 ⟨rfl, rfl⟩)
            | (go_at_call 19; refine (hdig _).mono ?_; rintro e w3 ⟨⟨m, hm, rfl, hv⟩, rfl⟩; have hcap : capR m V := (hv V rfl) ▸ cap_lid V; have HFT := Lib.hid (fit_neg (k := 2) hcap); have hmb : m ≤ 1099511627776 := hm; clear hm hv hcap)
            | (go_at_call 9; refine (Fits_any 2 _ _ (by omega) (by omega)).mono ?_; rintro e w9 ⟨rfl, rfl⟩; rw [HFT.out.1, hB])
          go_ret2
          exact ⟨by rw [HV.out, end_yes hB]; exact ret_two (HFT.out.2 hB), HB.out⟩
/-- reading of kind 3 -/
theorem read_3 (s : ByteArray) (w : World) (hs : s.size ≤ 40) (sl : ByteArray) (hsz : sl.size ≤ 1000) (hlow : ∀ W, Below w.heap.size w W → Calls Tryd.prog 14 #[.string s] W fun e w' => e = .returned (.string sl) ∧ Below W.heap.size W w') :
    Calls Tryd.prog 5 #[.int .i64 3, .string s] w fun e w' => e = .returned (.tuple #[.int .i64 (endF 3 (valF 3 sl.data.toList)).1, .int .i64 (endF 3 (valF 3 sl.data.toList)).2]) ∧ Below w.heap.size w w' := by
  have hnum := fun W => number_any sl W (by unfold maxLen; omega)
  have h40 : ¬ (40 : Int) < (s.size : Int) := by omega
  cases hN : numF sl.data.toList with
  | some V =>
    have HV : Hid (valF 3 sl.data.toList = some (V : Int)) := Lib.hid (by unfold valF; simp [hN])
    rw [hN] at hnum
    clear hN
    cases hB : fitsF 3 (V : Int)
    · go_enter Tryd.func5, Tryd.ntmps5
      go_wp2_with first
        | (go_at_call 13; refine (widthC_3 _).mono ?_; rintro e w9 ⟨rfl, rfl⟩)
        | (go_at_call 14; refine (hlow _ (Below.refl _ _)).mono ?_; rintro e w1 ⟨rfl, hb1⟩; have HB := Lib.hid hb1; clear hb1 hlow)
        | (go_at_call 17; refine (hnum _).mono ?_; rintro e w2 ⟨⟨n, hn, rfl, hv⟩, rfl⟩; have hcap : capR n V := (hv V rfl) ▸ cap_lid V; have HFT := Lib.hid (fit_cap (k := 3) hcap); have hnb : n ≤ 1099511627776 := hn; clear hn hv hcap)
        | (go_at_call 9; refine (Fits_any 3 _ _ (by omega) (by omega)).mono ?_; rintro e w9 ⟨rfl, rfl⟩; rw [HFT.out.1, hB])
      go_ret2
      exact ⟨by rw [HV.out, end_no hB]; rfl, HB.out⟩
    · go_enter Tryd.func5, Tryd.ntmps5
      go_wp2_with first
        | (go_at_call 13; refine (widthC_3 _).mono ?_; rintro e w9 ⟨rfl, rfl⟩)
        | (go_at_call 14; refine (hlow _ (Below.refl _ _)).mono ?_; rintro e w1 ⟨rfl, hb1⟩; have HB := Lib.hid hb1; clear hb1 hlow)
        | (go_at_call 17; refine (hnum _).mono ?_; rintro e w2 ⟨⟨n, hn, rfl, hv⟩, rfl⟩; have hcap : capR n V := (hv V rfl) ▸ cap_lid V; have HFT := Lib.hid (fit_cap (k := 3) hcap); have hnb : n ≤ 1099511627776 := hn; clear hn hv hcap)
        | (go_at_call 9; refine (Fits_any 3 _ _ (by omega) (by omega)).mono ?_; rintro e w9 ⟨rfl, rfl⟩; rw [HFT.out.1, hB])
      go_ret2
      exact ⟨by rw [HV.out, end_yes hB]; exact ret_two (HFT.out.2 hB), HB.out⟩
  | none =>
    rw [hN] at hnum
    have hhas := fun W => has_any sl [45] W
    cases hP : [45].isPrefixOf sl.data.toList with
    | false =>
      have HV : Hid (valF 3 sl.data.toList = none) := Lib.hid (by unfold valF; simp [hN, hP])
      rw [hP] at hhas
      clear hN hP
      go_enter Tryd.func5, Tryd.ntmps5
      go_wp2_with first
        | (go_at_call 13; refine (widthC_3 _).mono ?_; rintro e w9 ⟨rfl, rfl⟩)
        | (go_at_call 14; refine (hlow _ (Below.refl _ _)).mono ?_; rintro e w1 ⟨rfl, hb1⟩; have HB := Lib.hid hb1; clear hb1 hlow)
        | (go_at_call 17; refine (hnum _).mono ?_; rintro e w2 ⟨⟨n, hn, rfl, hv⟩, rfl⟩; have hnb : n ≤ 1099511627776 := hn; clear hv hn)
        | (go_at_call 18; refine (hhas _).mono ?_; rintro e w3 ⟨rfl, rfl⟩)
      go_ret2
      exact ⟨by rw [HV.out]; rfl, HB.out⟩
    | true =>
      have hsl1 : 1 ≤ sl.size := pre_len hP
      have hdig := fun W => digits_any (sl.extract 1 sl.size) 10 W (by omega) (by omega) (by unfold maxLen; rw [← size_data, Go.Lib.extract_data, List.length_take, List.length_drop, size_data]; omega)
      rw [Go.Lib.extract_data, List.take_of_length_le (by rw [List.length_drop, size_data]; omega)] at hdig
      rw [hP] at hhas
      cases hX : digF 10 (sl.data.toList.drop 1) 0 false with
      | none =>
        have HV : Hid (valF 3 sl.data.toList = none) := Lib.hid (val_neg (by decide) (by decide) (by decide) hN hP hX)
        rw [hX] at hdig
        clear hN hP hX
        go_enter Tryd.func5, Tryd.ntmps5
        go_wp2_with first
          | (go_at_call 13; refine (widthC_3 _).mono ?_; rintro e w9 ⟨rfl, rfl⟩)
          | (go_at_call 14; refine (hlow _ (Below.refl _ _)).mono ?_; rintro e w1 ⟨rfl, hb1⟩; have HB := Lib.hid hb1; clear hb1 hlow)
          | (go_at_call 17; refine (hnum _).mono ?_; rintro e w2 ⟨⟨n, hn, rfl, hv⟩, rfl⟩; have hnb : n ≤ 1099511627776 := hn; clear hv hn)
          | (go_at_call 18; refine (hhas _).mono ?_; rintro e w3 ⟨rfl, rfl⟩)
          | (go_at_call 19; refine (hdig _).mono ?_; rintro e w3 ⟨⟨m, hm, rfl, hv⟩, rfl⟩; have hmb : m ≤ 1099511627776 := hm; clear hm hv)
        go_ret2
        exact ⟨by rw [HV.out]; rfl, HB.out⟩
      | some V =>
        have HV : Hid (valF 3 sl.data.toList = some (-(V : Int))) := Lib.hid (val_neg (by decide) (by decide) (by decide) hN hP hX)
        rw [hX] at hdig
        clear hN hP hX
        cases hB : fitsF 3 (-(V : Int))
        · go_enter Tryd.func5, Tryd.ntmps5
          go_wp2_with first
            | (go_at_call 13; refine (widthC_3 _).mono ?_; rintro e w9 ⟨rfl, rfl⟩)
            | (go_at_call 14; refine (hlow _ (Below.refl _ _)).mono ?_; rintro e w1 ⟨rfl, hb1⟩; have HB := Lib.hid hb1; clear hb1 hlow)
            | (go_at_call 17; refine (hnum _).mono ?_; rintro e w2 ⟨⟨n, hn, rfl, hv⟩, rfl⟩; have hnb : n ≤ 1099511627776 := hn; clear hv hn)
            | (go_at_call 18; refine (hhas _).mono ?_; rintro e w3 ⟨rfl, rfl⟩)
            | (go_at_call 19; refine (hdig _).mono ?_; rintro e w3 ⟨⟨m, hm, rfl, hv⟩, rfl⟩; have hcap : capR m V := (hv V rfl) ▸ cap_lid V; have HFT := Lib.hid (fit_neg (k := 3) hcap); have hmb : m ≤ 1099511627776 := hm; clear hm hv hcap)
            | (go_at_call 9; refine (Fits_any 3 _ _ (by omega) (by omega)).mono ?_; rintro e w9 ⟨rfl, rfl⟩; rw [HFT.out.1, hB])
          go_ret2
          exact ⟨by rw [HV.out, end_no hB]; rfl, HB.out⟩
        · go_enter Tryd.func5, Tryd.ntmps5
          go_wp2_with first
            | (go_at_call 13; refine (widthC_3 _).mono ?_; rintro e w9 ⟨rfl, rfl⟩)
            | (go_at_call 14; refine (hlow _ (Below.refl _ _)).mono ?_; rintro e w1 ⟨rfl, hb1⟩; have HB := Lib.hid hb1; clear hb1 hlow)
            | (go_at_call 17; refine (hnum _).mono ?_; rintro e w2 ⟨⟨n, hn, rfl, hv⟩, rfl⟩; have hnb : n ≤ 1099511627776 := hn; clear hv hn)
            | (go_at_call 18; refine (hhas _).mono ?_; rintro e w3 ⟨rfl, rfl⟩)
            | (go_at_call 19; refine (hdig _).mono ?_; rintro e w3 ⟨⟨m, hm, rfl, hv⟩, rfl⟩; have hcap : capR m V := (hv V rfl) ▸ cap_lid V; have HFT := Lib.hid (fit_neg (k := 3) hcap); have hmb : m ≤ 1099511627776 := hm; clear hm hv hcap)
            | (go_at_call 9; refine (Fits_any 3 _ _ (by omega) (by omega)).mono ?_; rintro e w9 ⟨rfl, rfl⟩; rw [HFT.out.1, hB])
          go_ret2
          exact ⟨by rw [HV.out, end_yes hB]; exact ret_two (HFT.out.2 hB), HB.out⟩
/-- reading of kind 4 -/
theorem read_4 (s : ByteArray) (w : World) (hs : s.size ≤ 40) (sl : ByteArray) (hsz : sl.size ≤ 1000) (hlow : ∀ W, Below w.heap.size w W → Calls Tryd.prog 14 #[.string s] W fun e w' => e = .returned (.string sl) ∧ Below W.heap.size W w') :
    Calls Tryd.prog 5 #[.int .i64 4, .string s] w fun e w' => e = .returned (.tuple #[.int .i64 (endF 4 (valF 4 sl.data.toList)).1, .int .i64 (endF 4 (valF 4 sl.data.toList)).2]) ∧ Below w.heap.size w w' := by
  have hnum := fun W => number_any sl W (by unfold maxLen; omega)
  have h40 : ¬ (40 : Int) < (s.size : Int) := by omega
  cases hN : numF sl.data.toList with
  | some V =>
    have HV : Hid (valF 4 sl.data.toList = some (V : Int)) := Lib.hid (by unfold valF; simp [hN])
    rw [hN] at hnum
    clear hN
    cases hB : fitsF 4 (V : Int)
    · go_enter Tryd.func5, Tryd.ntmps5
      go_wp2_with first
        | (go_at_call 13; refine (widthC_4 _).mono ?_; rintro e w9 ⟨rfl, rfl⟩)
        | (go_at_call 14; refine (hlow _ (Below.refl _ _)).mono ?_; rintro e w1 ⟨rfl, hb1⟩; have HB := Lib.hid hb1; clear hb1 hlow)
        | (go_at_call 17; refine (hnum _).mono ?_; rintro e w2 ⟨⟨n, hn, rfl, hv⟩, rfl⟩; have hcap : capR n V := (hv V rfl) ▸ cap_lid V; have HFT := Lib.hid (fit_cap (k := 4) hcap); have hnb : n ≤ 1099511627776 := hn; clear hn hv hcap)
        | (go_at_call 9; refine (Fits_any 4 _ _ (by omega) (by omega)).mono ?_; rintro e w9 ⟨rfl, rfl⟩; rw [HFT.out.1, hB])
      go_ret2
      exact ⟨by rw [HV.out, end_no hB]; rfl, HB.out⟩
    · go_enter Tryd.func5, Tryd.ntmps5
      go_wp2_with first
        | (go_at_call 13; refine (widthC_4 _).mono ?_; rintro e w9 ⟨rfl, rfl⟩)
        | (go_at_call 14; refine (hlow _ (Below.refl _ _)).mono ?_; rintro e w1 ⟨rfl, hb1⟩; have HB := Lib.hid hb1; clear hb1 hlow)
        | (go_at_call 17; refine (hnum _).mono ?_; rintro e w2 ⟨⟨n, hn, rfl, hv⟩, rfl⟩; have hcap : capR n V := (hv V rfl) ▸ cap_lid V; have HFT := Lib.hid (fit_cap (k := 4) hcap); have hnb : n ≤ 1099511627776 := hn; clear hn hv hcap)
        | (go_at_call 9; refine (Fits_any 4 _ _ (by omega) (by omega)).mono ?_; rintro e w9 ⟨rfl, rfl⟩; rw [HFT.out.1, hB])
      go_ret2
      exact ⟨by rw [HV.out, end_yes hB]; exact ret_two (HFT.out.2 hB), HB.out⟩
  | none =>
    rw [hN] at hnum
    have HV : Hid (valF 4 sl.data.toList = none) := Lib.hid (by unfold valF; simp [hN])
    clear hN
    go_enter Tryd.func5, Tryd.ntmps5
    go_wp2_with first
      | (go_at_call 13; refine (widthC_4 _).mono ?_; rintro e w9 ⟨rfl, rfl⟩)
      | (go_at_call 14; refine (hlow _ (Below.refl _ _)).mono ?_; rintro e w1 ⟨rfl, hb1⟩; have HB := Lib.hid hb1; clear hb1 hlow)
      | (go_at_call 17; refine (hnum _).mono ?_; rintro e w2 ⟨⟨n, hn, rfl, hv⟩, rfl⟩; have hnb : n ≤ 1099511627776 := hn; clear hv hn)
    go_ret2
    exact ⟨by rw [HV.out]; rfl, HB.out⟩
/-- reading of times -/
theorem read_5 (s : ByteArray) (w : World) (hs : s.size ≤ 40) (sl : ByteArray) (hsz : sl.size ≤ 1000) (hlow : ∀ W, Below w.heap.size w W → Calls Tryd.prog 14 #[.string s] W fun e w' => e = .returned (.string sl) ∧ Below W.heap.size W w') :
    Calls Tryd.prog 5 #[.int .i64 5, .string s] w fun e w' => e = .returned (.tuple #[.int .i64 (endF 5 (valF 5 sl.data.toList)).1, .int .i64 (endF 5 (valF 5 sl.data.toList)).2]) ∧ Below w.heap.size w w' := by
  have htim := fun W => readTime_any sl W (by omega)
  have h40 : ¬ (40 : Int) < (s.size : Int) := by omega
  cases hN : timeL sl.data.toList with
  | some V =>
    have HV : Hid (valF 5 sl.data.toList = some (V : Int)) := Lib.hid (by unfold valF; simp [hN])
    rw [hN] at htim
    clear hN
    cases hB : fitsF 5 (V : Int)
    · go_enter Tryd.func5, Tryd.ntmps5
      go_wp2_with first
        | (go_at_call 13; refine (widthC_5 _).mono ?_; rintro e w9 ⟨rfl, rfl⟩)
        | (go_at_call 14; refine (hlow _ (Below.refl _ _)).mono ?_; rintro e w1 ⟨rfl, hb1⟩; have HB := Lib.hid hb1; clear hb1 hlow)
        | (go_at_call 16; refine (htim _).mono ?_; rintro e w2 ⟨⟨n, hn, rfl, hv⟩, hb2⟩; have HB2 := Lib.hid (HB.out.trans (hb2.mono HB.out.size)); have HFT := Lib.hid (fit_cap (k := 5) (hv V rfl)); clear hv hb2 HB)
        | (go_at_call 9; refine (Fits_any 5 _ _ (by omega) (by omega)).mono ?_; rintro e w9 ⟨rfl, rfl⟩; rw [HFT.out.1, hB])
      go_ret2
      exact ⟨by rw [HV.out, end_no hB]; rfl, HB2.out⟩
    · go_enter Tryd.func5, Tryd.ntmps5
      go_wp2_with first
        | (go_at_call 13; refine (widthC_5 _).mono ?_; rintro e w9 ⟨rfl, rfl⟩)
        | (go_at_call 14; refine (hlow _ (Below.refl _ _)).mono ?_; rintro e w1 ⟨rfl, hb1⟩; have HB := Lib.hid hb1; clear hb1 hlow)
        | (go_at_call 16; refine (htim _).mono ?_; rintro e w2 ⟨⟨n, hn, rfl, hv⟩, hb2⟩; have HB2 := Lib.hid (HB.out.trans (hb2.mono HB.out.size)); have HFT := Lib.hid (fit_cap (k := 5) (hv V rfl)); clear hv hb2 HB)
        | (go_at_call 9; refine (Fits_any 5 _ _ (by omega) (by omega)).mono ?_; rintro e w9 ⟨rfl, rfl⟩; rw [HFT.out.1, hB])
      go_ret2
      exact ⟨by rw [HV.out, end_yes hB]; exact ret_two (HFT.out.2 hB), HB2.out⟩
  | none =>
    rw [hN] at htim
    have HV : Hid (valF 5 sl.data.toList = none) := Lib.hid (by unfold valF; simp [hN])
    clear hN
    go_enter Tryd.func5, Tryd.ntmps5
    go_wp2_with first
      | (go_at_call 13; refine (widthC_5 _).mono ?_; rintro e w9 ⟨rfl, rfl⟩)
      | (go_at_call 14; refine (hlow _ (Below.refl _ _)).mono ?_; rintro e w1 ⟨rfl, hb1⟩; have HB := Lib.hid hb1; clear hb1 hlow)
      | (go_at_call 16; refine (htim _).mono ?_; rintro e w2 ⟨⟨n, hn, rfl, hv⟩, hb2⟩; have HB2 := Lib.hid (HB.out.trans (hb2.mono HB.out.size)); clear hv hb2 HB)
    go_ret2
    exact ⟨by rw [HV.out]; rfl, HB2.out⟩
/-- reading of truths -/
theorem read_1 (s : ByteArray) (w : World) (hs : s.size ≤ 40) (sl : ByteArray) (_hsz : sl.size ≤ 1000) (hlow : ∀ W, Below w.heap.size w W → Calls Tryd.prog 14 #[.string s] W fun e w' => e = .returned (.string sl) ∧ Below W.heap.size W w') :
    Calls Tryd.prog 5 #[.int .i64 1, .string s] w fun e w' => e = .returned (.tuple #[.int .i64 (endF 1 (valF 1 sl.data.toList)).1, .int .i64 (endF 1 (valF 1 sl.data.toList)).2]) ∧ Below w.heap.size w w' := by
  have h40 : ¬ (40 : Int) < (s.size : Int) := by omega
  by_cases h1 : sl.data.toList = trueL
  · have HV : Hid (endF 1 (valF 1 sl.data.toList) = (1, 0)) := Lib.hid (by rw [h1]; decide)
    have b1 : (sl.toList == [116, 114, 117, 101]) = true := by rw [toList_data, h1]; rfl
    clear h1
    go_enter Tryd.func5, Tryd.ntmps5
    go_wp2_with first
      | (go_at_call 13; refine (widthC_1 _).mono ?_; rintro e w9 ⟨rfl, rfl⟩)
      | (go_at_call 14; refine (hlow _ (Below.refl _ _)).mono ?_; rintro e w1 ⟨rfl, hb1⟩; have HB := Lib.hid hb1; clear hb1 hlow)
      | (go_at_call 15; refine (truth_1 _).mono ?_; rintro e w2 ⟨rfl, rfl⟩)
      | (go_at_call 9; refine (Fits_any 1 1 _ (by omega) (by omega)).mono ?_; rintro e w9 ⟨rfl, rfl⟩; rw [show fitsF 1 1 = true from by decide])
    go_ret2
    exact ⟨by rw [HV.out]; rfl, HB.out⟩
  · have b1 : (sl.toList == [116, 114, 117, 101]) = false := by rw [toList_data, beq_eq_false_iff_ne]; exact h1
    by_cases h2 : sl.data.toList = falseL
    · have HV : Hid (endF 1 (valF 1 sl.data.toList) = (0, 0)) := Lib.hid (by rw [h2]; decide)
      have b2 : (sl.toList == [102, 97, 108, 115, 101]) = true := by rw [toList_data, h2]; rfl
      clear h1 h2
      go_enter Tryd.func5, Tryd.ntmps5
      go_wp2_with first
        | (go_at_call 13; refine (widthC_1 _).mono ?_; rintro e w9 ⟨rfl, rfl⟩)
        | (go_at_call 14; refine (hlow _ (Below.refl _ _)).mono ?_; rintro e w1 ⟨rfl, hb1⟩; have HB := Lib.hid hb1; clear hb1 hlow)
        | (go_at_call 15; refine (truth_0 _).mono ?_; rintro e w2 ⟨rfl, rfl⟩)
        | (go_at_call 9; refine (Fits_any 1 0 _ (by omega) (by omega)).mono ?_; rintro e w9 ⟨rfl, rfl⟩; rw [show fitsF 1 0 = true from by decide])
      go_ret2
      exact ⟨by rw [HV.out]; rfl, HB.out⟩
    · have HV : Hid (endF 1 (valF 1 sl.data.toList) = (0, 1)) := Lib.hid (by unfold valF; simp [h1, h2, endF])
      have b2 : (sl.toList == [102, 97, 108, 115, 101]) = false := by rw [toList_data, beq_eq_false_iff_ne]; exact h2
      clear h1 h2
      go_enter Tryd.func5, Tryd.ntmps5
      go_wp2_with first
        | (go_at_call 13; refine (widthC_1 _).mono ?_; rintro e w9 ⟨rfl, rfl⟩)
        | (go_at_call 14; refine (hlow _ (Below.refl _ _)).mono ?_; rintro e w1 ⟨rfl, hb1⟩; have HB := Lib.hid hb1; clear hb1 hlow)
        | (go_at_call 15; refine (truth_0 _).mono ?_; rintro e w2 ⟨rfl, rfl⟩)
      go_ret2
      exact ⟨by rw [HV.out]; rfl, HB.out⟩
/-- what is read of a text -/
def readF (k : Int) (l : List UInt8) : Int × Int := if (widthF k).1 = 0 then (0, 5) else if 40 < l.length then (0, 2) else endF k (valF k (l.map Go.Lib.lowerB))
theorem mapD_len (f : Int → Int) : ∀ (n : Nat) (l : List UInt8), l.length ≤ n → (Go.Lib.mapD f l).length ≤ 4 * l.length
  | _, [], _ => by simp [Go.Lib.mapD_nil]
  | 0, c :: l, h => by simp at h
  | n + 1, c :: l, h => by
    rw [Go.Lib.mapD_step f (c :: l) (by simp)]
    have hw := Go.Lib.decodeL_width (c :: l)
    have hd : ((c :: l).drop (Go.Lib.decodeL (c :: l)).2).length ≤ n := by rw [List.length_drop]; omega
    have hi := mapD_len f n _ hd
    have he : (if 0 ≤ f (Go.Lib.decodeL (c :: l)).1 then Go.Lib.encodeRune (f (Go.Lib.decodeL (c :: l)).1) else []).length ≤ 4 := by
      split
      · unfold Go.Lib.encodeRune
        rw [List.length_map]
        exact Go.Lib.encodeRuneZ_length_le _
      · simp
    rw [List.length_append]
    rw [List.length_drop] at hi
    have hl : (c :: l).length = l.length + 1 := rfl
    rw [hl] at hi ⊢
    omega
theorem Read_any (k : Int) (s : ByteArray) (w : World) (hs : s.size ≤ maxLen) (hT : Lib.Utf8Tabs 2 3 w) :
    Calls Tryd.prog 5 #[.int .i64 k, .string s] w fun e w' => e = .returned (.tuple #[.int .i64 (readF k s.data.toList).1, .int .i64 (readF k s.data.toList).2]) ∧ Below w.heap.size w w' := by
  have hs0 : s.size ≤ 9223372036854775807 := by unfold maxLen at hs; omega
  by_cases h0 : (widthF k).1 = 0
  · have hr : Hid (readF k s.data.toList = (0, 5)) := Lib.hid (by unfold readF; rw [if_pos h0])
    have hw := fun W => width_any k W
    rw [h0] at hw
    clear h0
    go_enter Tryd.func5, Tryd.ntmps5
    go_wp2_with (go_at_call 13; refine (hw _).mono ?_; rintro e w9 ⟨rfl, rfl⟩)
    go_ret2
    exact ⟨by rw [hr.out]; rfl, Below.refl _ _⟩
  · by_cases h4 : 40 < s.size
    · have hr : Hid (readF k s.data.toList = (0, 2)) := Lib.hid (by unfold readF; rw [if_neg h0, if_pos (by rw [size_data]; exact h4)])
      have hw := fun W => width_any k W
      have hw0 : ((widthF k).1 == 0) = false := by simpa using h0
      have h40 : (40 : Int) < (s.size : Int) := by omega
      clear h0 h4
      generalize (widthF k).1 = a at hw hw0
      go_enter Tryd.func5, Tryd.ntmps5
      go_wp2_with (go_at_call 13; refine (hw _).mono ?_; rintro e w9 ⟨rfl, rfl⟩)
      go_ret2
      exact ⟨by rw [hr.out]; rfl, Below.refl _ _⟩
    · have hr : readF k s.data.toList = endF k (valF k (Go.Lib.mapD lowR s.data.toList)) := by
        unfold readF
        rw [if_neg h0, if_neg (by rw [size_data]; exact h4), val_low]
      obtain ⟨sl, hsl⟩ : ∃ sl, strB (Go.Lib.mapD lowR s.data.toList) = sl := ⟨_, rfl⟩
      have hsd : sl.data.toList = Go.Lib.mapD lowR s.data.toList := by rw [← hsl, strB_data]
      have hsz : sl.size ≤ 1000 := by
        have := mapD_len lowR s.data.toList.length s.data.toList (Nat.le_refl _)
        rw [← hsl, strB_size]
        rw [size_data] at this
        omega
      have hlow : ∀ W, Below w.heap.size w W → Calls Tryd.prog 14 #[.string s] W fun e w' => e = .returned (.string sl) ∧ Below W.heap.size W w' := fun W hb => by
        have := lower_any s W (by omega) (Utf8Tabs_below hT hb)
        rwa [hsl] at this
      rw [hr, ← hsd]
      rcases kinds k with rfl | rfl | rfl | rfl | rfl | ⟨h1, h2, h3, h5, h6⟩
      · exact read_1 s w (by omega) sl hsz hlow
      · exact read_2 s w (by omega) sl hsz hlow
      · exact read_3 s w (by omega) sl hsz hlow
      · exact read_4 s w (by omega) sl hsz hlow
      · exact read_5 s w (by omega) sl hsz hlow
      · exfalso
        simp only [beq_eq_false_iff_ne, ne_eq] at h1 h2 h3 h5 h6
        exact h0 (by simp [widthF, h1, h2, h3, h5, h6])
end Go.Proofs.YtckjnlonijodcaaDoor.Tx
