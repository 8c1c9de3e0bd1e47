/-
  Contracts of the statements' own helpers on slices of ints: sameInts, over. Conditions: the slices read as lists; for over: the slice owns its row.
-/
import Derived.Test.YtbamjapbledgcaaRows
import Derived.Test.YtbamjapbledgcaaW
import Derived.Deep.QuietTactic
import Derived.BigQuiet
namespace Go.Proofs.Ytbamjapbledgcaa.Ints
open Go.RowKit Go.Proofs.Ytbamjapbledgcaa.W

theorem int_info : (Try.prog.info? 3).map (fun i => (i.zero, i.size, i.bytes)) = some (some (.int .i64 0), 1, 8) := by kernel_rfl
abbrev ints (zs : List Int) : List Value := zs.map (Value.int .i64)
theorem ints_len (zs : List Int) : (ints zs).length = zs.length := by simp
theorem rd_len {w : World} {A : Option Addr} {n : Nat} {zs : List Int} (h : Rd w 1 A n (ints zs)) : zs.length = n := by simpa using h.1
theorem rd_at {w : World} {A : Option Addr} {n : Nat} {zs : List Int} (h : Rd w 1 A n (ints zs)) (hn : 0 < n) :
    ∃ b o, A = some ⟨b, o, none⟩ ∧ ∀ j, j < n → w.cell? ⟨b, o + j, none⟩ = some (.int .i64 (zs.getD j 0)) := by
  obtain ⟨b, o, e, hc⟩ := h.2 hn
  refine ⟨b, o, e, fun j hj => hc j _ ?_⟩
  have hl := rd_len h
  simp [List.getElem?_map, List.getD_eq_getElem?_getD, List.getElem?_eq_getElem (show j < zs.length by omega)]

theorem take_next {xs ys : List Int} {k : Nat} (hx : k < xs.length) (hy : k < ys.length) (h : xs.take k = ys.take k) (he : xs.getD k 0 = ys.getD k 0) : xs.take (k + 1) = ys.take (k + 1) := by
  rw [List.take_succ_eq_append_getElem hx, List.take_succ_eq_append_getElem hy, h]
  simp [List.getD_eq_getElem?_getD, List.getElem?_eq_getElem hx, List.getElem?_eq_getElem hy] at he
  rw [he]

set_option maxHeartbeats 400000 in
theorem sameInts_eq (A B : Option Addr) (n c d : Nat) (xs ys : List Int) (w : World) (hA : Rd w 1 A n (ints xs)) (hB : Rd w 1 B n (ints ys)) (hm : n ≤ maxLen) :
    Calls Try.prog 7 #[.slice A n c, .slice B n d] w fun e w' => e = .returned (.bool (decide (xs = ys))) ∧ ∃ k, w' = w.drewN k := by
  unfold maxLen at hm
  have hx := rd_len hA
  have hy := rd_len hB
  have HX := Lib.hid hx
  have HY := Lib.hid hy
  clear hx hy
  have HA := Lib.hid hA
  have HB := Lib.hid hB
  clear hA hB
  go_enter Try.func7, Try.ntmps7
  go_wp2
  go_loopw [5] (fun i wr => ∃ k : Nat, k ≤ n ∧ i = .int .i64 k ∧ Hid (xs.take k = ys.take k) ∧ ∃ q, wr = w.drewN q) (fun i _ => n - (intOf i).toNat)
  case atStart => exact ⟨0, Nat.zero_le _, rfl, rfl, 0, rfl⟩
  case round =>
    obtain ⟨k, hk, rfl, ht, q, rfl⟩ := hrel
    by_cases hlt : k < n
    · obtain ⟨b, o, rfl, hc⟩ := rd_at HA.out (by omega)
      obtain ⟨b', o', rfl, hc'⟩ := rd_at HB.out (by omega)
      have h1 := hc k hlt
      have h2 := hc' k hlt
      clear hc hc'
      generalize hu : xs.getD k 0 = u at h1
      generalize hv : ys.getD k 0 = v at h2
      have HU := Lib.hid hu
      have HV := Lib.hid hv
      clear hu hv
      go_wp2
      go_quiet (fail)
      go_wp2
      · have hne : (u != v) = true := by assumption
        have hfin : false = decide (xs = ys) := by
          symm
          apply decide_eq_false
          intro he
          rw [← HU.out, ← HV.out, he] at hne
          simp at hne
        go_ret
        exact ⟨ret_bool hfin, drew2 _ _ _⟩
      · have hne : (u != v) = false := by assumption
        have he : u = v := by simpa using hne
        go_roundw
        case rel => exact ⟨k + 1, by omega, by go_num, take_next (by rw [HX.out]; exact hlt) (by rw [HY.out]; exact hlt) ht (by rw [HU.out, HV.out]; exact he), _, rfl⟩
        case measure => simp [intOf]; omega
    · have hk' : k = n := by omega
      have hfin : true = decide (xs = ys) := by
        symm
        apply decide_eq_true
        have h := ht.out
        rwa [List.take_of_length_le (by rw [HX.out]; omega), List.take_of_length_le (by rw [HY.out]; omega)] at h
      have HF := Lib.hid hfin
      clear hfin
      go_wp2
      go_ret
      exact ⟨ret_bool HF.out, _, rfl⟩

theorem sameInts_ne (A B : Option Addr) (n m c d : Nat) (w : World) (h : n ≠ m) :
    Calls Try.prog 7 #[.slice A n c, .slice B m d] w fun e w' => e = .returned (.bool false) ∧ ∃ k, w' = w.drewN k := by
  have hb : ((n : Int) != (m : Int)) = true := by simp; omega
  go_enter Try.func7, Try.ntmps7
  go_wp2
  go_ret
  exact ⟨rfl, 0, rfl⟩

/-- sameInts answers whether the two lists are one; it only reads. -/
theorem sameInts_any (A B : Option Addr) (n m c d : Nat) (xs ys : List Int) (w : World) (hA : Rd w 1 A n (ints xs)) (hB : Rd w 1 B m (ints ys)) (hm : n ≤ maxLen) :
    Calls Try.prog 7 #[.slice A n c, .slice B m d] w fun e w' => e = .returned (.bool (decide (xs = ys))) ∧ ∃ k, w' = w.drewN k := by
  by_cases h : n = m
  · subst h
    exact sameInts_eq A B n c d xs ys w hA hB hm
  · refine (sameInts_ne A B n m c d w h).mono ?_
    rintro e w' ⟨rfl, hw⟩
    refine ⟨ret_bool ?_, hw⟩
    symm
    apply decide_eq_false
    intro he
    exact h (by rw [← rd_len hA, ← rd_len hB, he])

end Go.Proofs.Ytbamjapbledgcaa.Ints
