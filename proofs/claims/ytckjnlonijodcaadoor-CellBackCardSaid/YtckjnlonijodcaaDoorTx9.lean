/-
  The program's small letters, numbers, units. Conditions: the tables of UTF-8 as they are laid (small letters); that the text fits a machine.
-/
import Derived.Test.YtckjnlonijodcaaDoorTx2
import Derived.Test.YtckjnlonijodcaaDoorTx5
import Derived.Test.YtckjnlonijodcaaDoorTx8
import Derived.Test.YtckjnlonijodcaaDoorShelf
namespace Go.Proofs.YtckjnlonijodcaaDoor.Tx
open Go.RowKit Go.Proofs.YtckjnlonijodcaaDoor.W Go.Proofs.YtckjnlonijodcaaDoor.Num Go.Proofs.YtckjnlonijodcaaDoor.Cell

theorem strB_data (l : List UInt8) : (strB l).data.toList = l := by simp
theorem strB_size (l : List UInt8) : (strB l).size = l.length := by rw [← size_data, strB_data]
theorem strB_of (s : ByteArray) : strB s.data.toList = s := by simp [strB]
theorem cut_yes (s : ByteArray) (p : List UInt8) (w : World) (h : p.isPrefixOf s.data.toList = true) : Calls Tryd.prog 34 #[.string s, .string (strB p)] w fun e w' => e = .returned (.tuple #[.string (strB (s.data.toList.drop p.length)), .bool true]) ∧ w' = w := by
  have := Tryd.strings_CutPrefix s (strB p) w
  rw [strB_data, show Lib.hasPrefix s.data.toList p = true from h, show Lib.trimPrefix s.data.toList p = s.data.toList.drop p.length from by unfold Lib.trimPrefix; rw [show Lib.hasPrefix s.data.toList p = true from h]; rfl] at this
  exact this
theorem cut_no (s : ByteArray) (p : List UInt8) (w : World) (h : p.isPrefixOf s.data.toList = false) : Calls Tryd.prog 34 #[.string s, .string (strB p)] w fun e w' => e = .returned (.tuple #[.string s, .bool false]) ∧ w' = w := by
  have := Tryd.strings_CutPrefix s (strB p) w
  rw [strB_data, show Lib.hasPrefix s.data.toList p = false from h, show Lib.trimPrefix s.data.toList p = s.data.toList from by unfold Lib.trimPrefix; rw [show Lib.hasPrefix s.data.toList p = false from h]; rfl] at this
  rw [show (⟨s.data.toList.toArray⟩ : ByteArray) = s from by simp] at this
  exact this
theorem has_any (s : ByteArray) (p : List UInt8) (w : World) : Calls Tryd.prog 18 #[.string s, .string (strB p)] w fun e w' => e = .returned (.bool (p.isPrefixOf s.data.toList)) ∧ w' = w := by
  have := Tryd.strings_HasPrefix s (strB p) w
  rw [strB_data] at this
  exact this
theorem low_pays (w : World) : MapAtRunes Tryd.prog 33 #[] lowR w := fun W x _ _ => by
  unfold FnGives
  rcases (show (x : Int) < 65 ∨ (65 ≤ (x : Int) ∧ (x : Int) ≤ 90) ∨ 90 < (x : Int) by omega) with h | h | h
  · have h1 : ¬ (65 : Int) ≤ (x : Int) := by omega
    have hl : lowR (x : Int) = x := by unfold lowR; rw [if_neg (by omega)]
    rw [hl]
    clear hl
    go_enter Tryd.func33, Tryd.ntmps33
    go_wp2
    go_ret
    exact ⟨rfl, 0, rfl⟩
  · obtain ⟨h1, h2⟩ := h
    have hl : lowR (x : Int) = x + 32 := by unfold lowR; rw [if_pos ⟨h1, h2⟩]
    rw [hl]
    clear hl
    go_enter Tryd.func33, Tryd.ntmps33
    go_wp2
    go_ret
    exact ⟨ret_int (by omega), 0, rfl⟩
  · have h1 : (65 : Int) ≤ (x : Int) := by omega
    have h2 : ¬ (x : Int) ≤ 90 := by omega
    have hl : lowR (x : Int) = x := by unfold lowR; rw [if_neg (by omega)]
    rw [hl]
    clear hl
    go_enter Tryd.func33, Tryd.ntmps33
    go_wp2
    go_ret
    exact ⟨rfl, 0, rfl⟩
theorem lower_any (s : ByteArray) (w : World) (hs : s.size < 35184372088832) (hT : Lib.Utf8Tabs 2 3 w) :
    Calls Tryd.prog 14 #[.string s] w fun e w' => e = .returned (.string (strB (Go.Lib.mapD lowR s.data.toList))) ∧ Below w.heap.size w w' := by
  have hC := Tryd.strings_Map_runes 33 #[] (enters_of Tryd.func33 (by kernel_rfl) rfl) lowR s w hs (low_pays w) (fun x hx => by have := lowR_pos x; omega) hT
  go_enter Tryd.func14, Tryd.ntmps14
  go_wp2_with (go_at_call 32; refine hC.mono ?_; rintro e w' ⟨rfl, hb⟩)
  go_ret
  exact ⟨rfl, hb⟩
theorem dig_num {e : Ending} {D : Option Nat} {M : Nat} (h : DigR e D M) : NumR e D M := h
set_option maxHeartbeats 3200000 in
theorem number_any (s : ByteArray) (w : World) (hs : s.size ≤ maxLen) :
    Calls Tryd.prog 17 #[.string s] w fun e w' => NumR e (numF s.data.toList) lidN ∧ w' = w := by
  have hs0 : s.size ≤ 9223372036854775807 := by unfold maxLen at hs; omega
  by_cases h1 : pre16.isPrefixOf s.data.toList = true
  · have hN : numF s.data.toList = digF 16 (s.data.toList.drop 3) 0 false := by unfold numF; rw [if_pos h1]
    have hc := fun W => cut_yes s pre16 W h1
    have hd := fun W => digits_any (strB (s.data.toList.drop 3)) 16 W (by omega) (by omega) (by rw [strB_size, List.length_drop, size_data]; omega)
    rw [strB_data] at hd
    rw [hN]
    clear hN h1
    go_enter Tryd.func17, Tryd.ntmps17
    go_wp2_with first
      | (go_at_call 34; refine (hc _).mono ?_; rintro e w' ⟨rfl, rfl⟩)
      | (go_at_call 19; refine (hd _).mono ?_; rintro e w' ⟨⟨n, hn, rfl, hv⟩, rfl⟩)
    go_ret2
    exact ⟨⟨n, hn, rfl, hv⟩, rfl⟩
  · have h1f := Bool.eq_false_iff.2 h1
    have hc := fun W => cut_no s pre16 W h1f
    by_cases h2 : pre2.isPrefixOf s.data.toList = true
    · have hN : numF s.data.toList = digF 2 (s.data.toList.drop 2) 0 false := by unfold numF; rw [if_neg h1, if_pos h2]
      have hc2 := fun W => cut_yes s pre2 W h2
      have hd := fun W => digits_any (strB (s.data.toList.drop 2)) 2 W (by omega) (by omega) (by rw [strB_size, List.length_drop, size_data]; omega)
      rw [strB_data] at hd
      rw [hN]
      clear hN h1 h2 h1f
      go_enter Tryd.func17, Tryd.ntmps17
      go_wp2_with first
        | (go_at_call 34; refine (hc _).mono ?_; rintro e w' ⟨rfl, rfl⟩; clear hc)
        | (go_at_call 34; refine (hc2 _).mono ?_; rintro e w' ⟨rfl, rfl⟩)
        | (go_at_call 19; refine (hd _).mono ?_; rintro e w' ⟨⟨n, hn, rfl, hv⟩, rfl⟩)
      go_ret2
      exact ⟨⟨n, hn, rfl, hv⟩, rfl⟩
    · have hN : numF s.data.toList = digF 10 s.data.toList 0 false := by unfold numF; rw [if_neg h1, if_neg h2]
      have hc2 := fun W => cut_no s pre2 W (Bool.eq_false_iff.2 h2)
      have hd := fun W => digits_any s 10 W (by omega) (by omega) hs
      rw [hN]
      clear hN h1 h2 h1f
      go_enter Tryd.func17, Tryd.ntmps17
      go_wp2_with first
        | (go_at_call 34; refine (hc _).mono ?_; rintro e w' ⟨rfl, rfl⟩; clear hc)
        | (go_at_call 34; refine (hc2 _).mono ?_; rintro e w' ⟨rfl, rfl⟩)
        | (go_at_call 19; refine (hd _).mono ?_; rintro e w' ⟨⟨n, hn, rfl, hv⟩, rfl⟩)
      go_ret2
      exact ⟨⟨n, hn, rfl, hv⟩, rfl⟩
set_option maxHeartbeats 3200000 in
theorem unit_any (s : ByteArray) (w : World) :
    Calls Tryd.prog 37 #[.string s] w fun e w' => e = .returned (.tuple #[.int .i64 ((unitF s.data.toList).1 : Int), .int .i64 ((unitF s.data.toList).2 : Int)]) ∧ w' = w := by
  have h1 := fun W => has_any s [109, 115] W
  have h2 := fun W => has_any s [100] W
  have h3 := fun W => has_any s [104] W
  have h4 := fun W => has_any s [109] W
  have h5 := fun W => has_any s [115] W
  unfold unitF
  generalize [109, 115].isPrefixOf s.data.toList = b1 at h1 ⊢
  generalize [100].isPrefixOf s.data.toList = b2 at h2 ⊢
  generalize [104].isPrefixOf s.data.toList = b3 at h3 ⊢
  generalize [109].isPrefixOf s.data.toList = b4 at h4 ⊢
  generalize [115].isPrefixOf s.data.toList = b5 at h5 ⊢
  cases b1
  · cases b2
    · cases b3
      · cases b4
        · cases b5
          all_goals
            go_enter Tryd.func37, Tryd.ntmps37
            go_wp2_with first
              | (go_at_call 18; refine (h1 _).mono ?_; rintro e w' ⟨rfl, rfl⟩; clear h1)
              | (go_at_call 18; refine (h2 _).mono ?_; rintro e w' ⟨rfl, rfl⟩; clear h2)
              | (go_at_call 18; refine (h3 _).mono ?_; rintro e w' ⟨rfl, rfl⟩; clear h3)
              | (go_at_call 18; refine (h4 _).mono ?_; rintro e w' ⟨rfl, rfl⟩; clear h4)
              | (go_at_call 18; refine (h5 _).mono ?_; rintro e w' ⟨rfl, rfl⟩; clear h5)
            go_ret2
            exact ⟨rfl, rfl⟩
        · go_enter Tryd.func37, Tryd.ntmps37
          go_wp2_with first
            | (go_at_call 18; refine (h1 _).mono ?_; rintro e w' ⟨rfl, rfl⟩; clear h1)
            | (go_at_call 18; refine (h2 _).mono ?_; rintro e w' ⟨rfl, rfl⟩; clear h2)
            | (go_at_call 18; refine (h3 _).mono ?_; rintro e w' ⟨rfl, rfl⟩; clear h3)
            | (go_at_call 18; refine (h4 _).mono ?_; rintro e w' ⟨rfl, rfl⟩; clear h4)
          go_ret2
          exact ⟨rfl, rfl⟩
      · go_enter Tryd.func37, Tryd.ntmps37
        go_wp2_with first
          | (go_at_call 18; refine (h1 _).mono ?_; rintro e w' ⟨rfl, rfl⟩; clear h1)
          | (go_at_call 18; refine (h2 _).mono ?_; rintro e w' ⟨rfl, rfl⟩; clear h2)
          | (go_at_call 18; refine (h3 _).mono ?_; rintro e w' ⟨rfl, rfl⟩; clear h3)
        go_ret2
        exact ⟨rfl, rfl⟩
    · go_enter Tryd.func37, Tryd.ntmps37
      go_wp2_with first
        | (go_at_call 18; refine (h1 _).mono ?_; rintro e w' ⟨rfl, rfl⟩; clear h1)
        | (go_at_call 18; refine (h2 _).mono ?_; rintro e w' ⟨rfl, rfl⟩; clear h2)
      go_ret2
      exact ⟨rfl, rfl⟩
  · go_enter Tryd.func37, Tryd.ntmps37
    go_wp2_with (go_at_call 18; refine (h1 _).mono ?_; rintro e w' ⟨rfl, rfl⟩; clear h1)
    go_ret2
    exact ⟨rfl, rfl⟩
theorem nd_pays (w : World) : PredAtRunes Tryd.prog 36 #[] ndB w := fun W x _ _ => by
  unfold FnGives
  by_cases h0 : (x : Int) = 95
  · have hb : ndB x = false := by unfold ndB; simp; omega
    have h9 : ((x : Int) != 95) = false := by simpa using h0
    rw [hb]
    clear hb
    go_enter Tryd.func36, Tryd.ntmps36
    go_wp2
    all_goals
      go_ret
      exact ⟨rfl, 0, rfl⟩
  · have h9 : ((x : Int) != 95) = true := by simpa using h0
    by_cases h1 : (x : Int) < 48
    · have hb : ndB x = true := by unfold ndB; simp; omega
      rw [hb]
      clear hb h0
      go_enter Tryd.func36, Tryd.ntmps36
      go_wp2
      all_goals
        go_ret
        exact ⟨rfl, 0, rfl⟩
    · by_cases h2 : 57 < (x : Int)
      · have hb : ndB x = true := by unfold ndB; simp; omega
        rw [hb]
        clear hb h0
        go_enter Tryd.func36, Tryd.ntmps36
        go_wp2
        all_goals
          go_ret
          exact ⟨rfl, 0, rfl⟩
      · have hb : ndB x = false := by unfold ndB; simp; omega
        rw [hb]
        clear hb h0
        go_enter Tryd.func36, Tryd.ntmps36
        go_wp2
        all_goals
          go_ret
          exact ⟨rfl, 0, rfl⟩
theorem idx_any (s : ByteArray) (w : World) : Calls Tryd.prog 35 #[.string s, .func (.func 36) #[] #[]] w fun e w' => e = .returned (.int .i64 (if (tw 10 s 0).length < s.size then ((tw 10 s 0).length : Int) else -1)) ∧ Below w.heap.size w w' := by
  have := Tryd.strings_IndexFunc_runes 36 #[] (enters_of Tryd.func36 (by kernel_rfl) rfl) ndB s w (nd_pays w)
  rw [idx_all] at this
  exact this
end Go.Proofs.YtckjnlonijodcaaDoor.Tx
