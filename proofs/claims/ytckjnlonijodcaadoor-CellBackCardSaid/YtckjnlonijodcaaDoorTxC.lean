/-
  The reference's ReadValue: what any text says of any kind. No conditions but that the text fits a machine.
-/
import Derived.Test.YtckjnlonijodcaaDoorTxB
import Derived.Test.YtckjnlonijodcaaDoorTx7
namespace Go.Proofs.YtckjnlonijodcaaDoor.Tx
open Go.RowKit Go.Proofs.YtckjnlonijodcaaDoor.W Go.Proofs.YtckjnlonijodcaaDoor.Num Go.Proofs.YtckjnlonijodcaaDoor.Cell

theorem yes_1 (w : World) : Calls Tryd.prog 22 #[.bool true] w fun e w' => e = .returned (.int .i64 1) ∧ w' = w := by
  go_enter Tryd.func22, Tryd.ntmps22
  go_wp2
  go_ret
  exact ⟨rfl, rfl⟩
theorem yes_0 (w : World) : Calls Tryd.prog 22 #[.bool false] w fun e w' => e = .returned (.int .i64 0) ∧ w' = w := by
  go_enter Tryd.func22, Tryd.ntmps22
  go_wp2
  go_ret
  exact ⟨rfl, rfl⟩
theorem pre_45 {s : ByteArray} (h : 0 < s.size) : [45].isPrefixOf s.data.toList = decide (s[0].toNat = 45) := by
  have hd := drop_byte s 0 h
  rw [List.drop_zero] at hd
  rw [hd]
  simp only [List.isPrefixOf, Bool.and_true]
  rw [Bool.eq_iff_iff, beq_iff_eq, decide_eq_true_eq]
  constructor
  · intro e; rw [← e]; rfl
  · intro e
    rw [show (45 : UInt8) = UInt8.ofNat 45 from rfl, ← e]
    simp
theorem val_num {k : Int} {l : List UInt8} (h1 : k ≠ 1) (h5 : k ≠ 5) (hP : [45].isPrefixOf l = false) : valF k l = (numF l).map Int.ofNat := by
  unfold valF
  rw [if_neg h1, if_neg h5, hP]
  cases numF l <;> simp
theorem readR_2 (s : ByteArray) (w : World) (hs : s.size ≤ 40) (sl : ByteArray) (hsz : sl.size ≤ 1000) (hlow : ∀ W, Calls Tryd.prog 21 #[.string s] W fun e w' => e = .returned (.string sl) ∧ Below W.heap.size W w') :
    Calls Tryd.prog 6 #[.int .i64 2, .string s] w fun e w' => e = .returned (.tuple #[.int .i64 (endF 2 (valF 2 sl.data.toList)).1, .int .i64 (endF 2 (valF 2 sl.data.toList)).2]) ∧ Below w.heap.size w w' := by
  have h40 : ¬ (40 : Int) < (s.size : Int) := by omega
  rcases Nat.eq_zero_or_pos sl.size with hz | hz
  · have hP : [45].isPrefixOf sl.data.toList = false := by
      have : sl.data.toList = [] := List.eq_nil_of_length_eq_zero (by rw [size_data]; exact hz)
      rw [this]
      rfl
    have hz1 : ¬ (0 : Int) < (sl.size : Int) := by omega
    have hnum := fun W => Number_any sl W (by unfold maxLen; omega)
    cases hN : numF sl.data.toList with
    | some V =>
      have HV : Hid (valF 2 sl.data.toList = some (V : Int)) := Lib.hid (by unfold valF; simp [hN])
      rw [hN] at hnum
      clear hN
      cases hB : fitsF 2 (V : Int)
      · go_enter Tryd.func6, Tryd.ntmps6
        go_wp2_with first
          | (go_at_call 20; refine (Width_2 _).mono ?_; rintro e w9 ⟨rfl, rfl⟩)
          | (go_at_call 21; refine (hlow _).mono ?_; rintro e w1 ⟨rfl, hb1⟩; have HB := Lib.hid hb1; clear hb1 hlow)
          | (go_at_call 25; refine (hnum _).mono ?_; rintro e w2 ⟨⟨n, hn, rfl, hv⟩, rfl⟩; have hcap : capR n V := (hv V rfl) ▸ cap_far V; have HFT := Lib.hid (fit_cap (k := 2) hcap); have hnb : n ≤ 4398046511104 := hn; clear hn hv hcap)
          | (go_at_call 26; refine (FitsR_any 2 _ _).mono ?_; rintro e w9 ⟨rfl, rfl⟩; rw [HFT.out.1, hB])
        go_ret2
        exact ⟨by rw [HV.out, end_no hB]; rfl, HB.out⟩
      · go_enter Tryd.func6, Tryd.ntmps6
        go_wp2_with first
          | (go_at_call 20; refine (Width_2 _).mono ?_; rintro e w9 ⟨rfl, rfl⟩)
          | (go_at_call 21; refine (hlow _).mono ?_; rintro e w1 ⟨rfl, hb1⟩; have HB := Lib.hid hb1; clear hb1 hlow)
          | (go_at_call 25; refine (hnum _).mono ?_; rintro e w2 ⟨⟨n, hn, rfl, hv⟩, rfl⟩; have hcap : capR n V := (hv V rfl) ▸ cap_far V; have HFT := Lib.hid (fit_cap (k := 2) hcap); have hnb : n ≤ 4398046511104 := hn; clear hn hv hcap)
          | (go_at_call 26; refine (FitsR_any 2 _ _).mono ?_; rintro e w9 ⟨rfl, rfl⟩; rw [HFT.out.1, hB])
        go_ret2
        exact ⟨by rw [HV.out, end_yes hB]; exact ret_two (HFT.out.2 hB), HB.out⟩
    | none =>
      rw [hN] at hnum
      have HV : Hid (valF 2 sl.data.toList = none) := Lib.hid (by rw [val_num (by decide) (by decide) hP, hN]; rfl)
      clear hN
      go_enter Tryd.func6, Tryd.ntmps6
      go_wp2_with first
        | (go_at_call 20; refine (Width_2 _).mono ?_; rintro e w9 ⟨rfl, rfl⟩)
        | (go_at_call 21; refine (hlow _).mono ?_; rintro e w1 ⟨rfl, hb1⟩; have HB := Lib.hid hb1; clear hb1 hlow)
        | (go_at_call 25; refine (hnum _).mono ?_; rintro e w2 ⟨⟨n, hn, rfl, hv⟩, rfl⟩; have hnb : n ≤ 4398046511104 := hn; clear hv hn)
      go_ret2
      exact ⟨by rw [HV.out]; rfl, HB.out⟩
  · have hz1 : (0 : Int) < (sl.size : Int) := by omega
    have hP := pre_45 hz
    obtain ⟨c, hc⟩ : ∃ c, sl[0] = c := ⟨_, rfl⟩
    rw [hc] at hP
    by_cases h45 : c.toNat = 45
    · have h46 : ((c.toNat : Int) == 45) = true := by simp; omega
      rw [decide_eq_true h45] at hP
      have hN : numF sl.data.toList = none := num_none (c := c) (by rw [← List.drop_zero (l := sl.data.toList), drop_byte sl 0 hz, hc]; exact List.mem_cons_self) (.inr h45)
      obtain ⟨E, hE⟩ : ∃ E, 1 + (tw 10 sl 1).length = E := ⟨_, rfl⟩
      obtain ⟨X, hX⟩ : ∃ X, digF 10 (tw 10 sl 1) 0 false = X := ⟨_, rfl⟩
      have hrun : ∀ W, Calls Tryd.prog 24 #[.string sl, .int .i64 1, .int .i64 10] W fun e w' => RunR e E X ∧ w' = W := fun W => by
        have := run_neg sl W (by unfold maxLen; omega) hz
        rwa [hE, hX] at this
      have hw := whole 10 sl 1
      rw [hE, hX, List.length_drop, size_data, show 1 + (sl.size - 1) = sl.size by omega] at hw
      have hval := val_neg (k := 2) (o := if E = sl.size then X else none) (by decide) (by decide) (by decide) hN hP hw
      clear hw hN hP hE hX h45
      cases X with
      | none =>
        have HV : Hid (valF 2 sl.data.toList = none) := Lib.hid (by rw [hval]; simp)
        clear hval
        go_enter Tryd.func6, Tryd.ntmps6
        go_wp2_with first
          | (go_at_call 20; refine (Width_2 _).mono ?_; rintro e w9 ⟨rfl, rfl⟩)
          | (go_at_call 21; refine (hlow _).mono ?_; rintro e w1 ⟨rfl, hb1⟩; have HB := Lib.hid hb1; clear hb1 hlow)
          | (go_at_call 24; refine (hrun _).mono ?_; rintro e w3 ⟨⟨m, hm, rfl, hv⟩, rfl⟩; have hmb : m ≤ 4398046511104 := hm; clear hm hv)
        go_ret2
        exact ⟨by rw [HV.out]; rfl, HB.out⟩
      | some V =>
        by_cases hEs : E = sl.size
        · have hE1 : ((E : Int) == (sl.size : Int)) = true := by simp; omega
          have HV : Hid (valF 2 sl.data.toList = some (-(V : Int))) := Lib.hid (by rw [hval, if_pos hEs]; rfl)
          clear hval hEs
          cases hB : fitsF 2 (-(V : Int))
          · go_enter Tryd.func6, Tryd.ntmps6
            go_wp2_with first
              | (go_at_call 20; refine (Width_2 _).mono ?_; rintro e w9 ⟨rfl, rfl⟩)
              | (go_at_call 21; refine (hlow _).mono ?_; rintro e w1 ⟨rfl, hb1⟩; have HB := Lib.hid hb1; clear hb1 hlow)
              | (go_at_call 24; refine (hrun _).mono ?_; rintro e w3 ⟨⟨m, hm, rfl, hv⟩, rfl⟩; have hcap : capR m V := (hv V rfl) ▸ cap_far V; have HFT := Lib.hid (fit_neg (k := 2) hcap); have hmb : m ≤ 4398046511104 := hm; clear hm hv hcap)
              | (go_at_call 26; refine (FitsR_any 2 _ _).mono ?_; rintro e w9 ⟨rfl, rfl⟩; rw [HFT.out.1, hB])
            go_ret2
            exact ⟨by rw [HV.out, end_no hB]; rfl, HB.out⟩
          · go_enter Tryd.func6, Tryd.ntmps6
            go_wp2_with first
              | (go_at_call 20; refine (Width_2 _).mono ?_; rintro e w9 ⟨rfl, rfl⟩)
              | (go_at_call 21; refine (hlow _).mono ?_; rintro e w1 ⟨rfl, hb1⟩; have HB := Lib.hid hb1; clear hb1 hlow)
              | (go_at_call 24; refine (hrun _).mono ?_; rintro e w3 ⟨⟨m, hm, rfl, hv⟩, rfl⟩; have hcap : capR m V := (hv V rfl) ▸ cap_far V; have HFT := Lib.hid (fit_neg (k := 2) hcap); have hmb : m ≤ 4398046511104 := hm; clear hm hv hcap)
              | (go_at_call 26; refine (FitsR_any 2 _ _).mono ?_; rintro e w9 ⟨rfl, rfl⟩; rw [HFT.out.1, hB])
            go_ret2
            exact ⟨by rw [HV.out, end_yes hB]; exact ret_two (HFT.out.2 hB), HB.out⟩
        · have hE1 : ((E : Int) == (sl.size : Int)) = false := by simp; omega
          have HV : Hid (valF 2 sl.data.toList = none) := Lib.hid (by rw [hval, if_neg hEs]; rfl)
          clear hval hEs
          go_enter Tryd.func6, Tryd.ntmps6
          go_wp2_with first
            | (go_at_call 20; refine (Width_2 _).mono ?_; rintro e w9 ⟨rfl, rfl⟩)
            | (go_at_call 21; refine (hlow _).mono ?_; rintro e w1 ⟨rfl, hb1⟩; have HB := Lib.hid hb1; clear hb1 hlow)
            | (go_at_call 24; refine (hrun _).mono ?_; rintro e w3 ⟨⟨m, hm, rfl, hv⟩, rfl⟩; have hmb : m ≤ 4398046511104 := hm; clear hm hv)
          go_ret2
          exact ⟨by rw [HV.out]; rfl, HB.out⟩
    · have h46 : ((c.toNat : Int) == 45) = false := by simp; omega
      rw [decide_eq_false h45] at hP
      clear h45
      have hnum := fun W => Number_any sl W (by unfold maxLen; omega)
      cases hN : numF sl.data.toList with
      | some V =>
        have HV : Hid (valF 2 sl.data.toList = some (V : Int)) := Lib.hid (by unfold valF; simp [hN])
        rw [hN] at hnum
        clear hN
        cases hB : fitsF 2 (V : Int)
        · go_enter Tryd.func6, Tryd.ntmps6
          go_wp2_with first
            | (go_at_call 20; refine (Width_2 _).mono ?_; rintro e w9 ⟨rfl, rfl⟩)
            | (go_at_call 21; refine (hlow _).mono ?_; rintro e w1 ⟨rfl, hb1⟩; have HB := Lib.hid hb1; clear hb1 hlow)
            | (go_at_call 25; refine (hnum _).mono ?_; rintro e w2 ⟨⟨n, hn, rfl, hv⟩, rfl⟩; have hcap : capR n V := (hv V rfl) ▸ cap_far V; have HFT := Lib.hid (fit_cap (k := 2) hcap); have hnb : n ≤ 4398046511104 := hn; clear hn hv hcap)
            | (go_at_call 26; refine (FitsR_any 2 _ _).mono ?_; rintro e w9 ⟨rfl, rfl⟩; rw [HFT.out.1, hB])
          go_ret2
          exact ⟨by rw [HV.out, end_no hB]; rfl, HB.out⟩
        · go_enter Tryd.func6, Tryd.ntmps6
          go_wp2_with first
            | (go_at_call 20; refine (Width_2 _).mono ?_; rintro e w9 ⟨rfl, rfl⟩)
            | (go_at_call 21; refine (hlow _).mono ?_; rintro e w1 ⟨rfl, hb1⟩; have HB := Lib.hid hb1; clear hb1 hlow)
            | (go_at_call 25; refine (hnum _).mono ?_; rintro e w2 ⟨⟨n, hn, rfl, hv⟩, rfl⟩; have hcap : capR n V := (hv V rfl) ▸ cap_far V; have HFT := Lib.hid (fit_cap (k := 2) hcap); have hnb : n ≤ 4398046511104 := hn; clear hn hv hcap)
            | (go_at_call 26; refine (FitsR_any 2 _ _).mono ?_; rintro e w9 ⟨rfl, rfl⟩; rw [HFT.out.1, hB])
          go_ret2
          exact ⟨by rw [HV.out, end_yes hB]; exact ret_two (HFT.out.2 hB), HB.out⟩
      | none =>
        rw [hN] at hnum
        have HV : Hid (valF 2 sl.data.toList = none) := Lib.hid (by rw [val_num (by decide) (by decide) hP, hN]; rfl)
        clear hN
        go_enter Tryd.func6, Tryd.ntmps6
        go_wp2_with first
          | (go_at_call 20; refine (Width_2 _).mono ?_; rintro e w9 ⟨rfl, rfl⟩)
          | (go_at_call 21; refine (hlow _).mono ?_; rintro e w1 ⟨rfl, hb1⟩; have HB := Lib.hid hb1; clear hb1 hlow)
          | (go_at_call 25; refine (hnum _).mono ?_; rintro e w2 ⟨⟨n, hn, rfl, hv⟩, rfl⟩; have hnb : n ≤ 4398046511104 := hn; clear hv hn)
        go_ret2
        exact ⟨by rw [HV.out]; rfl, HB.out⟩
theorem readR_3 (s : ByteArray) (w : World) (hs : s.size ≤ 40) (sl : ByteArray) (hsz : sl.size ≤ 1000) (hlow : ∀ W, Calls Tryd.prog 21 #[.string s] W fun e w' => e = .returned (.string sl) ∧ Below W.heap.size W w') :
    Calls Tryd.prog 6 #[.int .i64 3, .string s] w fun e w' => e = .returned (.tuple #[.int .i64 (endF 3 (valF 3 sl.data.toList)).1, .int .i64 (endF 3 (valF 3 sl.data.toList)).2]) ∧ Below w.heap.size w w' := by
  have h40 : ¬ (40 : Int) < (s.size : Int) := by omega
  rcases Nat.eq_zero_or_pos sl.size with hz | hz
  · have hP : [45].isPrefixOf sl.data.toList = false := by
      have : sl.data.toList = [] := List.eq_nil_of_length_eq_zero (by rw [size_data]; exact hz)
      rw [this]
      rfl
    have hz1 : ¬ (0 : Int) < (sl.size : Int) := by omega
    have hnum := fun W => Number_any sl W (by unfold maxLen; omega)
    cases hN : numF sl.data.toList with
    | some V =>
      have HV : Hid (valF 3 sl.data.toList = some (V : Int)) := Lib.hid (by unfold valF; simp [hN])
      rw [hN] at hnum
      clear hN
      cases hB : fitsF 3 (V : Int)
      · go_enter Tryd.func6, Tryd.ntmps6
        go_wp2_with first
          | (go_at_call 20; refine (Width_3 _).mono ?_; rintro e w9 ⟨rfl, rfl⟩)
          | (go_at_call 21; refine (hlow _).mono ?_; rintro e w1 ⟨rfl, hb1⟩; have HB := Lib.hid hb1; clear hb1 hlow)
          | (go_at_call 25; refine (hnum _).mono ?_; rintro e w2 ⟨⟨n, hn, rfl, hv⟩, rfl⟩; have hcap : capR n V := (hv V rfl) ▸ cap_far V; have HFT := Lib.hid (fit_cap (k := 3) hcap); have hnb : n ≤ 4398046511104 := hn; clear hn hv hcap)
          | (go_at_call 26; refine (FitsR_any 3 _ _).mono ?_; rintro e w9 ⟨rfl, rfl⟩; rw [HFT.out.1, hB])
        go_ret2
        exact ⟨by rw [HV.out, end_no hB]; rfl, HB.out⟩
      · go_enter Tryd.func6, Tryd.ntmps6
        go_wp2_with first
          | (go_at_call 20; refine (Width_3 _).mono ?_; rintro e w9 ⟨rfl, rfl⟩)
          | (go_at_call 21; refine (hlow _).mono ?_; rintro e w1 ⟨rfl, hb1⟩; have HB := Lib.hid hb1; clear hb1 hlow)
          | (go_at_call 25; refine (hnum _).mono ?_; rintro e w2 ⟨⟨n, hn, rfl, hv⟩, rfl⟩; have hcap : capR n V := (hv V rfl) ▸ cap_far V; have HFT := Lib.hid (fit_cap (k := 3) hcap); have hnb : n ≤ 4398046511104 := hn; clear hn hv hcap)
          | (go_at_call 26; refine (FitsR_any 3 _ _).mono ?_; rintro e w9 ⟨rfl, rfl⟩; rw [HFT.out.1, hB])
        go_ret2
        exact ⟨by rw [HV.out, end_yes hB]; exact ret_two (HFT.out.2 hB), HB.out⟩
    | none =>
      rw [hN] at hnum
      have HV : Hid (valF 3 sl.data.toList = none) := Lib.hid (by rw [val_num (by decide) (by decide) hP, hN]; rfl)
      clear hN
      go_enter Tryd.func6, Tryd.ntmps6
      go_wp2_with first
        | (go_at_call 20; refine (Width_3 _).mono ?_; rintro e w9 ⟨rfl, rfl⟩)
        | (go_at_call 21; refine (hlow _).mono ?_; rintro e w1 ⟨rfl, hb1⟩; have HB := Lib.hid hb1; clear hb1 hlow)
        | (go_at_call 25; refine (hnum _).mono ?_; rintro e w2 ⟨⟨n, hn, rfl, hv⟩, rfl⟩; have hnb : n ≤ 4398046511104 := hn; clear hv hn)
      go_ret2
      exact ⟨by rw [HV.out]; rfl, HB.out⟩
  · have hz1 : (0 : Int) < (sl.size : Int) := by omega
    have hP := pre_45 hz
    obtain ⟨c, hc⟩ : ∃ c, sl[0] = c := ⟨_, rfl⟩
    rw [hc] at hP
    by_cases h45 : c.toNat = 45
    · have h46 : ((c.toNat : Int) == 45) = true := by simp; omega
      rw [decide_eq_true h45] at hP
      have hN : numF sl.data.toList = none := num_none (c := c) (by rw [← List.drop_zero (l := sl.data.toList), drop_byte sl 0 hz, hc]; exact List.mem_cons_self) (.inr h45)
      obtain ⟨E, hE⟩ : ∃ E, 1 + (tw 10 sl 1).length = E := ⟨_, rfl⟩
      obtain ⟨X, hX⟩ : ∃ X, digF 10 (tw 10 sl 1) 0 false = X := ⟨_, rfl⟩
      have hrun : ∀ W, Calls Tryd.prog 24 #[.string sl, .int .i64 1, .int .i64 10] W fun e w' => RunR e E X ∧ w' = W := fun W => by
        have := run_neg sl W (by unfold maxLen; omega) hz
        rwa [hE, hX] at this
      have hw := whole 10 sl 1
      rw [hE, hX, List.length_drop, size_data, show 1 + (sl.size - 1) = sl.size by omega] at hw
      have hval := val_neg (k := 3) (o := if E = sl.size then X else none) (by decide) (by decide) (by decide) hN hP hw
      clear hw hN hP hE hX h45
      cases X with
      | none =>
        have HV : Hid (valF 3 sl.data.toList = none) := Lib.hid (by rw [hval]; simp)
        clear hval
        go_enter Tryd.func6, Tryd.ntmps6
        go_wp2_with first
          | (go_at_call 20; refine (Width_3 _).mono ?_; rintro e w9 ⟨rfl, rfl⟩)
          | (go_at_call 21; refine (hlow _).mono ?_; rintro e w1 ⟨rfl, hb1⟩; have HB := Lib.hid hb1; clear hb1 hlow)
          | (go_at_call 24; refine (hrun _).mono ?_; rintro e w3 ⟨⟨m, hm, rfl, hv⟩, rfl⟩; have hmb : m ≤ 4398046511104 := hm; clear hm hv)
        go_ret2
        exact ⟨by rw [HV.out]; rfl, HB.out⟩
      | some V =>
        by_cases hEs : E = sl.size
        · have hE1 : ((E : Int) == (sl.size : Int)) = true := by simp; omega
          have HV : Hid (valF 3 sl.data.toList = some (-(V : Int))) := Lib.hid (by rw [hval, if_pos hEs]; rfl)
          clear hval hEs
          cases hB : fitsF 3 (-(V : Int))
          · go_enter Tryd.func6, Tryd.ntmps6
            go_wp2_with first
              | (go_at_call 20; refine (Width_3 _).mono ?_; rintro e w9 ⟨rfl, rfl⟩)
              | (go_at_call 21; refine (hlow _).mono ?_; rintro e w1 ⟨rfl, hb1⟩; have HB := Lib.hid hb1; clear hb1 hlow)
              | (go_at_call 24; refine (hrun _).mono ?_; rintro e w3 ⟨⟨m, hm, rfl, hv⟩, rfl⟩; have hcap : capR m V := (hv V rfl) ▸ cap_far V; have HFT := Lib.hid (fit_neg (k := 3) hcap); have hmb : m ≤ 4398046511104 := hm; clear hm hv hcap)
              | (go_at_call 26; refine (FitsR_any 3 _ _).mono ?_; rintro e w9 ⟨rfl, rfl⟩; rw [HFT.out.1, hB])
            go_ret2
            exact ⟨by rw [HV.out, end_no hB]; rfl, HB.out⟩
          · go_enter Tryd.func6, Tryd.ntmps6
            go_wp2_with first
              | (go_at_call 20; refine (Width_3 _).mono ?_; rintro e w9 ⟨rfl, rfl⟩)
              | (go_at_call 21; refine (hlow _).mono ?_; rintro e w1 ⟨rfl, hb1⟩; have HB := Lib.hid hb1; clear hb1 hlow)
              | (go_at_call 24; refine (hrun _).mono ?_; rintro e w3 ⟨⟨m, hm, rfl, hv⟩, rfl⟩; have hcap : capR m V := (hv V rfl) ▸ cap_far V; have HFT := Lib.hid (fit_neg (k := 3) hcap); have hmb : m ≤ 4398046511104 := hm; clear hm hv hcap)
              | (go_at_call 26; refine (FitsR_any 3 _ _).mono ?_; rintro e w9 ⟨rfl, rfl⟩; rw [HFT.out.1, hB])
            go_ret2
            exact ⟨by rw [HV.out, end_yes hB]; exact ret_two (HFT.out.2 hB), HB.out⟩
        · have hE1 : ((E : Int) == (sl.size : Int)) = false := by simp; omega
          have HV : Hid (valF 3 sl.data.toList = none) := Lib.hid (by rw [hval, if_neg hEs]; rfl)
          clear hval hEs
          go_enter Tryd.func6, Tryd.ntmps6
          go_wp2_with first
            | (go_at_call 20; refine (Width_3 _).mono ?_; rintro e w9 ⟨rfl, rfl⟩)
            | (go_at_call 21; refine (hlow _).mono ?_; rintro e w1 ⟨rfl, hb1⟩; have HB := Lib.hid hb1; clear hb1 hlow)
            | (go_at_call 24; refine (hrun _).mono ?_; rintro e w3 ⟨⟨m, hm, rfl, hv⟩, rfl⟩; have hmb : m ≤ 4398046511104 := hm; clear hm hv)
          go_ret2
          exact ⟨by rw [HV.out]; rfl, HB.out⟩
    · have h46 : ((c.toNat : Int) == 45) = false := by simp; omega
      rw [decide_eq_false h45] at hP
      clear h45
      have hnum := fun W => Number_any sl W (by unfold maxLen; omega)
      cases hN : numF sl.data.toList with
      | some V =>
        have HV : Hid (valF 3 sl.data.toList = some (V : Int)) := Lib.hid (by unfold valF; simp [hN])
        rw [hN] at hnum
        clear hN
        cases hB : fitsF 3 (V : Int)
        · go_enter Tryd.func6, Tryd.ntmps6
          go_wp2_with first
            | (go_at_call 20; refine (Width_3 _).mono ?_; rintro e w9 ⟨rfl, rfl⟩)
            | (go_at_call 21; refine (hlow _).mono ?_; rintro e w1 ⟨rfl, hb1⟩; have HB := Lib.hid hb1; clear hb1 hlow)
            | (go_at_call 25; refine (hnum _).mono ?_; rintro e w2 ⟨⟨n, hn, rfl, hv⟩, rfl⟩; have hcap : capR n V := (hv V rfl) ▸ cap_far V; have HFT := Lib.hid (fit_cap (k := 3) hcap); have hnb : n ≤ 4398046511104 := hn; clear hn hv hcap)
            | (go_at_call 26; refine (FitsR_any 3 _ _).mono ?_; rintro e w9 ⟨rfl, rfl⟩; rw [HFT.out.1, hB])
          go_ret2
          exact ⟨by rw [HV.out, end_no hB]; rfl, HB.out⟩
        · go_enter Tryd.func6, Tryd.ntmps6
          go_wp2_with first
            | (go_at_call 20; refine (Width_3 _).mono ?_; rintro e w9 ⟨rfl, rfl⟩)
            | (go_at_call 21; refine (hlow _).mono ?_; rintro e w1 ⟨rfl, hb1⟩; have HB := Lib.hid hb1; clear hb1 hlow)
            | (go_at_call 25; refine (hnum _).mono ?_; rintro e w2 ⟨⟨n, hn, rfl, hv⟩, rfl⟩; have hcap : capR n V := (hv V rfl) ▸ cap_far V; have HFT := Lib.hid (fit_cap (k := 3) hcap); have hnb : n ≤ 4398046511104 := hn; clear hn hv hcap)
            | (go_at_call 26; refine (FitsR_any 3 _ _).mono ?_; rintro e w9 ⟨rfl, rfl⟩; rw [HFT.out.1, hB])
          go_ret2
          exact ⟨by rw [HV.out, end_yes hB]; exact ret_two (HFT.out.2 hB), HB.out⟩
      | none =>
        rw [hN] at hnum
        have HV : Hid (valF 3 sl.data.toList = none) := Lib.hid (by rw [val_num (by decide) (by decide) hP, hN]; rfl)
        clear hN
        go_enter Tryd.func6, Tryd.ntmps6
        go_wp2_with first
          | (go_at_call 20; refine (Width_3 _).mono ?_; rintro e w9 ⟨rfl, rfl⟩)
          | (go_at_call 21; refine (hlow _).mono ?_; rintro e w1 ⟨rfl, hb1⟩; have HB := Lib.hid hb1; clear hb1 hlow)
          | (go_at_call 25; refine (hnum _).mono ?_; rintro e w2 ⟨⟨n, hn, rfl, hv⟩, rfl⟩; have hnb : n ≤ 4398046511104 := hn; clear hv hn)
        go_ret2
        exact ⟨by rw [HV.out]; rfl, HB.out⟩
theorem readR_4 (s : ByteArray) (w : World) (hs : s.size ≤ 40) (sl : ByteArray) (hsz : sl.size ≤ 1000) (hlow : ∀ W, Calls Tryd.prog 21 #[.string s] W fun e w' => e = .returned (.string sl) ∧ Below W.heap.size W w') :
    Calls Tryd.prog 6 #[.int .i64 4, .string s] w fun e w' => e = .returned (.tuple #[.int .i64 (endF 4 (valF 4 sl.data.toList)).1, .int .i64 (endF 4 (valF 4 sl.data.toList)).2]) ∧ Below w.heap.size w w' := by
  have h40 : ¬ (40 : Int) < (s.size : Int) := by omega
  have hnum := fun W => Number_any sl W (by unfold maxLen; omega)
  cases hN : numF sl.data.toList with
  | some V =>
    have HV : Hid (valF 4 sl.data.toList = some (V : Int)) := Lib.hid (by unfold valF; simp [hN])
    rw [hN] at hnum
    clear hN
    cases hB : fitsF 4 (V : Int)
    · go_enter Tryd.func6, Tryd.ntmps6
      go_wp2_with first
        | (go_at_call 20; refine (Width_4 _).mono ?_; rintro e w9 ⟨rfl, rfl⟩)
        | (go_at_call 21; refine (hlow _).mono ?_; rintro e w1 ⟨rfl, hb1⟩; have HB := Lib.hid hb1; clear hb1 hlow)
        | (go_at_call 25; refine (hnum _).mono ?_; rintro e w2 ⟨⟨n, hn, rfl, hv⟩, rfl⟩; have hcap : capR n V := (hv V rfl) ▸ cap_far V; have HFT := Lib.hid (fit_cap (k := 4) hcap); have hnb : n ≤ 4398046511104 := hn; clear hn hv hcap)
        | (go_at_call 26; refine (FitsR_any 4 _ _).mono ?_; rintro e w9 ⟨rfl, rfl⟩; rw [HFT.out.1, hB])
      go_ret2
      exact ⟨by rw [HV.out, end_no hB]; rfl, HB.out⟩
    · go_enter Tryd.func6, Tryd.ntmps6
      go_wp2_with first
        | (go_at_call 20; refine (Width_4 _).mono ?_; rintro e w9 ⟨rfl, rfl⟩)
        | (go_at_call 21; refine (hlow _).mono ?_; rintro e w1 ⟨rfl, hb1⟩; have HB := Lib.hid hb1; clear hb1 hlow)
        | (go_at_call 25; refine (hnum _).mono ?_; rintro e w2 ⟨⟨n, hn, rfl, hv⟩, rfl⟩; have hcap : capR n V := (hv V rfl) ▸ cap_far V; have HFT := Lib.hid (fit_cap (k := 4) hcap); have hnb : n ≤ 4398046511104 := hn; clear hn hv hcap)
        | (go_at_call 26; refine (FitsR_any 4 _ _).mono ?_; rintro e w9 ⟨rfl, rfl⟩; rw [HFT.out.1, hB])
      go_ret2
      exact ⟨by rw [HV.out, end_yes hB]; exact ret_two (HFT.out.2 hB), HB.out⟩
  | none =>
    rw [hN] at hnum
    have HV : Hid (valF 4 sl.data.toList = none) := Lib.hid (by unfold valF; simp [hN])
    clear hN
    go_enter Tryd.func6, Tryd.ntmps6
    go_wp2_with first
      | (go_at_call 20; refine (Width_4 _).mono ?_; rintro e w9 ⟨rfl, rfl⟩)
      | (go_at_call 21; refine (hlow _).mono ?_; rintro e w1 ⟨rfl, hb1⟩; have HB := Lib.hid hb1; clear hb1 hlow)
      | (go_at_call 25; refine (hnum _).mono ?_; rintro e w2 ⟨⟨n, hn, rfl, hv⟩, rfl⟩; have hnb : n ≤ 4398046511104 := hn; clear hv hn)
    go_ret2
    exact ⟨by rw [HV.out]; rfl, HB.out⟩
theorem readR_5 (s : ByteArray) (w : World) (hs : s.size ≤ 40) (sl : ByteArray) (hsz : sl.size ≤ 1000) (hlow : ∀ W, Calls Tryd.prog 21 #[.string s] W fun e w' => e = .returned (.string sl) ∧ Below W.heap.size W w') :
    Calls Tryd.prog 6 #[.int .i64 5, .string s] w fun e w' => e = .returned (.tuple #[.int .i64 (endF 5 (valF 5 sl.data.toList)).1, .int .i64 (endF 5 (valF 5 sl.data.toList)).2]) ∧ Below w.heap.size w w' := by
  have h40 : ¬ (40 : Int) < (s.size : Int) := by omega
  have htim := fun W => span_any sl W (by unfold maxLen; omega)
  cases hN : timeL sl.data.toList with
  | some V =>
    have HV : Hid (valF 5 sl.data.toList = some (V : Int)) := Lib.hid (by unfold valF; simp [hN])
    rw [hN] at htim
    clear hN
    cases hB : fitsF 5 (V : Int)
    · go_enter Tryd.func6, Tryd.ntmps6
      go_wp2_with first
        | (go_at_call 20; refine (Width_5 _).mono ?_; rintro e w9 ⟨rfl, rfl⟩)
        | (go_at_call 21; refine (hlow _).mono ?_; rintro e w1 ⟨rfl, hb1⟩; have HB := Lib.hid hb1; clear hb1 hlow)
        | (go_at_call 23; refine (htim _).mono ?_; rintro e w2 ⟨⟨n, hn, rfl, hv⟩, hb2⟩; have HB2 := Lib.hid (HB.out.trans (hb2.mono HB.out.size)); have HFT := Lib.hid (fit_cap (k := 5) (hv V rfl)); clear hv hb2 HB)
        | (go_at_call 26; refine (FitsR_any 5 _ _).mono ?_; rintro e w9 ⟨rfl, rfl⟩; rw [HFT.out.1, hB])
      go_ret2
      exact ⟨by rw [HV.out, end_no hB]; rfl, HB2.out⟩
    · go_enter Tryd.func6, Tryd.ntmps6
      go_wp2_with first
        | (go_at_call 20; refine (Width_5 _).mono ?_; rintro e w9 ⟨rfl, rfl⟩)
        | (go_at_call 21; refine (hlow _).mono ?_; rintro e w1 ⟨rfl, hb1⟩; have HB := Lib.hid hb1; clear hb1 hlow)
        | (go_at_call 23; refine (htim _).mono ?_; rintro e w2 ⟨⟨n, hn, rfl, hv⟩, hb2⟩; have HB2 := Lib.hid (HB.out.trans (hb2.mono HB.out.size)); have HFT := Lib.hid (fit_cap (k := 5) (hv V rfl)); clear hv hb2 HB)
        | (go_at_call 26; refine (FitsR_any 5 _ _).mono ?_; rintro e w9 ⟨rfl, rfl⟩; rw [HFT.out.1, hB])
      go_ret2
      exact ⟨by rw [HV.out, end_yes hB]; exact ret_two (HFT.out.2 hB), HB2.out⟩
  | none =>
    rw [hN] at htim
    have HV : Hid (valF 5 sl.data.toList = none) := Lib.hid (by unfold valF; simp [hN])
    clear hN
    go_enter Tryd.func6, Tryd.ntmps6
    go_wp2_with first
      | (go_at_call 20; refine (Width_5 _).mono ?_; rintro e w9 ⟨rfl, rfl⟩)
      | (go_at_call 21; refine (hlow _).mono ?_; rintro e w1 ⟨rfl, hb1⟩; have HB := Lib.hid hb1; clear hb1 hlow)
      | (go_at_call 23; refine (htim _).mono ?_; rintro e w2 ⟨⟨n, hn, rfl, hv⟩, hb2⟩; have HB2 := Lib.hid (HB.out.trans (hb2.mono HB.out.size)); clear hv hb2 HB)
    go_ret2
    exact ⟨by rw [HV.out]; rfl, HB2.out⟩
theorem readR_1 (s : ByteArray) (w : World) (hs : s.size ≤ 40) (sl : ByteArray) (_hsz : sl.size ≤ 1000) (hlow : ∀ W, Calls Tryd.prog 21 #[.string s] W fun e w' => e = .returned (.string sl) ∧ Below W.heap.size W w') :
    Calls Tryd.prog 6 #[.int .i64 1, .string s] w fun e w' => e = .returned (.tuple #[.int .i64 (endF 1 (valF 1 sl.data.toList)).1, .int .i64 (endF 1 (valF 1 sl.data.toList)).2]) ∧ Below w.heap.size w w' := by
  have h40 : ¬ (40 : Int) < (s.size : Int) := by omega
  by_cases h1 : sl.data.toList = trueL
  · have HV : Hid (endF 1 (valF 1 sl.data.toList) = (1, 0)) := Lib.hid (by rw [h1]; decide)
    have b1 : (sl.toList == [116, 114, 117, 101]) = true := by rw [toList_data, h1]; rfl
    clear h1
    go_enter Tryd.func6, Tryd.ntmps6
    go_wp2_with first
      | (go_at_call 20; refine (Width_1 _).mono ?_; rintro e w9 ⟨rfl, rfl⟩)
      | (go_at_call 21; refine (hlow _).mono ?_; rintro e w1 ⟨rfl, hb1⟩; have HB := Lib.hid hb1; clear hb1 hlow)
      | (go_at_call 22; refine (yes_1 _).mono ?_; rintro e w2 ⟨rfl, rfl⟩)
      | (go_at_call 26; refine (FitsR_any 1 1 _).mono ?_; rintro e w9 ⟨rfl, rfl⟩; rw [show fitsF 1 1 = true from by decide])
    go_ret2
    exact ⟨by rw [HV.out]; rfl, HB.out⟩
  · have b1 : (sl.toList == [116, 114, 117, 101]) = false := by rw [toList_data, beq_eq_false_iff_ne]; exact h1
    by_cases h2 : sl.data.toList = falseL
    · have HV : Hid (endF 1 (valF 1 sl.data.toList) = (0, 0)) := Lib.hid (by rw [h2]; decide)
      have b2 : (sl.toList == [102, 97, 108, 115, 101]) = true := by rw [toList_data, h2]; rfl
      clear h1 h2
      go_enter Tryd.func6, Tryd.ntmps6
      go_wp2_with first
        | (go_at_call 20; refine (Width_1 _).mono ?_; rintro e w9 ⟨rfl, rfl⟩)
        | (go_at_call 21; refine (hlow _).mono ?_; rintro e w1 ⟨rfl, hb1⟩; have HB := Lib.hid hb1; clear hb1 hlow)
        | (go_at_call 22; refine (yes_0 _).mono ?_; rintro e w2 ⟨rfl, rfl⟩)
        | (go_at_call 26; refine (FitsR_any 1 0 _).mono ?_; rintro e w9 ⟨rfl, rfl⟩; rw [show fitsF 1 0 = true from by decide])
      go_ret2
      exact ⟨by rw [HV.out]; rfl, HB.out⟩
    · have HV : Hid (endF 1 (valF 1 sl.data.toList) = (0, 1)) := Lib.hid (by unfold valF; simp [h1, h2, endF])
      have b2 : (sl.toList == [102, 97, 108, 115, 101]) = false := by rw [toList_data, beq_eq_false_iff_ne]; exact h2
      clear h1 h2
      go_enter Tryd.func6, Tryd.ntmps6
      go_wp2_with first
        | (go_at_call 20; refine (Width_1 _).mono ?_; rintro e w9 ⟨rfl, rfl⟩)
        | (go_at_call 21; refine (hlow _).mono ?_; rintro e w1 ⟨rfl, hb1⟩; have HB := Lib.hid hb1; clear hb1 hlow)
        | (go_at_call 22; refine (yes_0 _).mono ?_; rintro e w2 ⟨rfl, rfl⟩)
      go_ret2
      exact ⟨by rw [HV.out]; rfl, HB.out⟩
theorem ReadValue_any (k : Int) (s : ByteArray) (w : World) (hs : s.size ≤ maxLen) :
    Calls Tryd.prog 6 #[.int .i64 k, .string s] w fun e w' => e = .returned (.tuple #[.int .i64 (readF k s.data.toList).1, .int .i64 (readF k s.data.toList).2]) ∧ Below w.heap.size w w' := by
  have hs0 : s.size ≤ 9223372036854775807 := by unfold maxLen at hs; omega
  have hwide : (wideF k).1 = 0 ↔ (widthF k).1 = 0 := by
    rcases kinds k with rfl | rfl | rfl | rfl | rfl | ⟨h1, h2, h3, h5, h6⟩
    any_goals (simp [wideF, widthF]; done)
    simp only [beq_eq_false_iff_ne, ne_eq] at h1 h2 h3 h5 h6
    simp [wideF, widthF, h1, h2, h3, h5, h6]
  by_cases h0 : (widthF k).1 = 0
  · have hr : Hid (readF k s.data.toList = (0, 5)) := Lib.hid (by unfold readF; rw [if_pos h0])
    have hw := fun W => Width_any k W
    rw [hwide.2 h0] at hw
    clear h0 hwide
    go_enter Tryd.func6, Tryd.ntmps6
    go_wp2_with (go_at_call 20; refine (hw _).mono ?_; rintro e w9 ⟨rfl, rfl⟩)
    go_ret2
    exact ⟨by rw [hr.out]; rfl, Below.refl _ _⟩
  · by_cases h4 : 40 < s.size
    · have hr : Hid (readF k s.data.toList = (0, 2)) := Lib.hid (by unfold readF; rw [if_neg h0, if_pos (by rw [size_data]; exact h4)])
      have hw := fun W => Width_any k W
      have hw0 : ((wideF k).1 == 0) = false := by simpa using fun h => h0 (hwide.1 h)
      have h40 : (40 : Int) < (s.size : Int) := by omega
      clear h0 h4 hwide
      generalize (wideF k).1 = a at hw hw0
      go_enter Tryd.func6, Tryd.ntmps6
      go_wp2_with (go_at_call 20; refine (hw _).mono ?_; rintro e w9 ⟨rfl, rfl⟩)
      go_ret2
      exact ⟨by rw [hr.out]; rfl, Below.refl _ _⟩
    · have hr : readF k s.data.toList = endF k (valF k (s.data.toList.map Go.Lib.lowerB)) := by
        unfold readF
        rw [if_neg h0, if_neg (by rw [size_data]; exact h4)]
      obtain ⟨sl, hsl⟩ : ∃ sl, strB (s.data.toList.map Go.Lib.lowerB) = sl := ⟨_, rfl⟩
      have hsd : sl.data.toList = s.data.toList.map Go.Lib.lowerB := by rw [← hsl, strB_data]
      have hsz : sl.size ≤ 1000 := by
        rw [← hsl, strB_size, List.length_map, size_data]
        omega
      have hlow : ∀ W, Calls Tryd.prog 21 #[.string s] W fun e w' => e = .returned (.string sl) ∧ Below W.heap.size W w' := fun W => by
        have := Lower_any s W (by omega)
        rwa [hsl] at this
      rw [hr, ← hsd]
      rcases kinds k with rfl | rfl | rfl | rfl | rfl | ⟨h1, h2, h3, h5, h6⟩
      · exact readR_1 s w (by omega) sl hsz hlow
      · exact readR_2 s w (by omega) sl hsz hlow
      · exact readR_3 s w (by omega) sl hsz hlow
      · exact readR_4 s w (by omega) sl hsz hlow
      · exact readR_5 s w (by omega) sl hsz hlow
      · exfalso
        simp only [beq_eq_false_iff_ne, ne_eq] at h1 h2 h3 h5 h6
        exact h0 (by simp [widthF, h1, h2, h3, h5, h6])
end Go.Proofs.YtckjnlonijodcaaDoor.Tx
