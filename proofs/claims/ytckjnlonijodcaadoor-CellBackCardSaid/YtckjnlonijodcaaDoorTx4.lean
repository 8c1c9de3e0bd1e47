/-
  The reference's numbers, small letters and times. No conditions but that the text fits a machine.
-/
import Derived.Test.YtckjnlonijodcaaDoorTx3
import Derived.WalkSpells
import Derived.Lib.Strings
import Derived.Lib.Case
import Derived.Lib.ConvBytes
namespace Go.Proofs.YtckjnlonijodcaaDoor.Tx
open Go.RowKit Go.Proofs.YtckjnlonijodcaaDoor.W Go.Proofs.YtckjnlonijodcaaDoor.Num Go.Proofs.YtckjnlonijodcaaDoor.Cell

theorem toList_data (s : ByteArray) : s.toList = s.data.toList := by
  rw [ByteArray.toList_eq]
theorem ext_pre {s : ByteArray} {p : List UInt8} {n : Nat} (hn : p.length = n) (h : n ≤ s.size) : ((s.extract 0 n).toList == p) = p.isPrefixOf s.data.toList := by
  subst hn
  rw [toList_data, Go.Lib.extract_data, List.drop_zero, Nat.sub_zero, Bool.eq_iff_iff, beq_iff_eq, List.isPrefixOf_iff_prefix]
  constructor
  · intro e
    rw [← e]
    exact List.take_prefix _ _
  · rintro ⟨t, ht⟩
    rw [← ht]
    simp
theorem pre_len {s : ByteArray} {p : List UInt8} (h : p.isPrefixOf s.data.toList = true) : p.length ≤ s.size := by
  have := (List.isPrefixOf_iff_prefix.1 h).length_le
  rwa [size_data] at this
theorem whole (base : Nat) (s : ByteArray) (k : Nat) : digF base (s.data.toList.drop k) 0 false = if k + (tw base s k).length = k + (s.data.toList.drop k).length then digF base (tw base s k) 0 false else none := by
  unfold tw
  have e := List.takeWhile_append_dropWhile (p := isD base) (l := s.data.toList.drop k)
  generalize s.data.toList.drop k = l at *
  split
  · rename_i h
    have h1 : (l.takeWhile (isD base)).length + (l.dropWhile (isD base)).length = l.length := by
      rw [← List.length_append, e]
    have h2 : l.dropWhile (isD base) = [] := List.eq_nil_of_length_eq_zero (by omega)
    rw [h2, List.append_nil] at e
    rw [e]
  · rename_i h
    cases hd : l.dropWhile (isD base) with
    | nil =>
      rw [hd, List.append_nil] at e
      rw [e] at h
      exact (h rfl).elim
    | cons c r =>
      have h1 : isD base c = false := by
        have := List.head_dropWhile_not (p := isD base) (l := l) (by rw [hd]; simp)
        simpa [hd] using this
      refine dig_none (c := c) ?_ h1 _ _
      rw [← e, hd]
      simp
/-- what a number's reading hands back -/
theorem num_fin {base a0 : Nat} {s : ByteArray} {n E : Nat} {D : Option Nat} {B : Bool} (ha : a0 ≤ s.size) (hE : a0 + (tw base s a0).length = E) (hD : digF base (tw base s a0) 0 false = D) (hN : numF s.data.toList = digF base (s.data.toList.drop a0) 0 false) (hv : ∀ V, D = some V → n = min V farN) (hB : D.isSome = B) :
    (numF s.data.toList).isSome = (B && ((E : Int) == (s.size : Int))) ∧ ∀ V, numF s.data.toList = some V → n = min V farN := by
  rw [hN, whole]
  have hl : a0 + (s.data.toList.drop a0).length = s.size := by rw [List.length_drop, size_data]; omega
  rw [hl, hE, hD, ← hB]
  by_cases h : E = s.size
  · rw [if_pos h]
    exact ⟨by simp [h], hv⟩
  · rw [if_neg h]
    refine ⟨?_, fun V hV => by cases hV⟩
    have : ((E : Int) == (s.size : Int)) = false := by simp; omega
    rw [this, Bool.and_false]
    rfl
def NumR (e : Ending) (D : Option Nat) (M : Nat) : Prop := ∃ n : Nat, n ≤ M ∧ e = .returned (.tuple #[.int .i64 (n : Int), .bool D.isSome]) ∧ ∀ V, D = some V → n = min V M
theorem run_16 (s : ByteArray) (w : World) (hs : s.size ≤ maxLen) (ha : 3 ≤ s.size) : Calls Tryd.prog 24 #[.string s, .int .i64 3, .int .i64 16] w fun e w' => RunR e (3 + (tw 16 s 3).length) (digF 16 (tw 16 s 3) 0 false) ∧ w' = w := run_any s 3 16 w (by omega) hs ha
theorem run_2 (s : ByteArray) (w : World) (hs : s.size ≤ maxLen) (ha : 2 ≤ s.size) : Calls Tryd.prog 24 #[.string s, .int .i64 2, .int .i64 2] w fun e w' => RunR e (2 + (tw 2 s 2).length) (digF 2 (tw 2 s 2) 0 false) ∧ w' = w := run_any s 2 2 w (by omega) hs ha
theorem run_10 (s : ByteArray) (w : World) (hs : s.size ≤ maxLen) : Calls Tryd.prog 24 #[.string s, .int .i64 0, .int .i64 10] w fun e w' => RunR e (0 + (tw 10 s 0).length) (digF 10 (tw 10 s 0) 0 false) ∧ w' = w := run_any s 0 10 w (by omega) hs (Nat.zero_le _)
theorem run_neg (s : ByteArray) (w : World) (hs : s.size ≤ maxLen) (ha : 1 ≤ s.size) : Calls Tryd.prog 24 #[.string s, .int .i64 1, .int .i64 10] w fun e w' => RunR e (1 + (tw 10 s 1).length) (digF 10 (tw 10 s 1) 0 false) ∧ w' = w := run_any s 1 10 w (by omega) hs ha
theorem run_at (s : ByteArray) (k : Nat) (w : World) (hs : s.size ≤ maxLen) (ha : k ≤ s.size) : Calls Tryd.prog 24 #[.string s, .int .i64 (k : Int), .int .i64 10] w fun e w' => RunR e (k + (tw 10 s k).length) (digF 10 (tw 10 s k) 0 false) ∧ w' = w := run_any s k 10 w (by omega) hs ha
set_option maxHeartbeats 3200000 in
theorem Number_any (s : ByteArray) (w : World) (hs : s.size ≤ maxLen) :
    Calls Tryd.prog 25 #[.string s] w fun e w' => NumR e (numF s.data.toList) farN ∧ w' = w := by
  have hs0 : s.size ≤ 9223372036854775807 := by unfold maxLen at hs; omega
  by_cases c16 : 3 < s.size ∧ pre16.isPrefixOf s.data.toList = true
  · obtain ⟨h3, hp⟩ := c16
    have hN : numF s.data.toList = digF 16 (s.data.toList.drop 3) 0 false := by unfold numF; rw [if_pos hp]
    have h1 : (3 : Int) < (s.size : Int) := by omega
    have h2 : ((s.extract 0 3).toList == [49, 54, 35]) = true := by rw [ext_pre (n := 3) (p := [49, 54, 35]) rfl (by omega)]; exact hp
    have HF := fun (n E : Nat) (D : Option Nat) (B : Bool) hE hD hv hB => Lib.hid (num_fin (base := 16) (a0 := 3) (n := n) (E := E) (D := D) (B := B) (by omega) hE hD hN hv hB)
    have HS := Lib.hid hs
    clear hN hp hs h3
    go_enter Tryd.func25, Tryd.ntmps25
    go_wp2_with (go_at_call 24; refine (run_16 s _ HS.out (by omega)).mono ?_; rintro e w' ⟨⟨n, hn, rfl, hv⟩, rfl⟩; obtain ⟨D, hD⟩ : ∃ D, digF 16 (tw 16 s 3) 0 false = D := ⟨_, rfl⟩; obtain ⟨E, hE⟩ : ∃ E, 3 + (tw 16 s 3).length = E := ⟨_, rfl⟩; rw [hD] at hv ⊢; rw [hE]; obtain ⟨B, hB⟩ : ∃ B, D.isSome = B := ⟨_, rfl⟩; rw [hB]; have HR := HF n E D B hE hD hv hB; clear hD hE hv HF hB; cases B)
    all_goals
      go_ret2
      refine ⟨⟨n, hn, ?_, HR.out.2⟩, rfl⟩
      rw [HR.out.1]
      first | rfl | simp
  · by_cases c2 : 2 < s.size ∧ pre2.isPrefixOf s.data.toList = true
    · obtain ⟨h3, hp⟩ := c2
      have h16 : ¬ pre16.isPrefixOf s.data.toList = true := by
        intro h
        obtain ⟨t, ht⟩ := List.isPrefixOf_iff_prefix.1 h
        rw [← ht] at hp
        simp [pre2, pre16] at hp
      have hN : numF s.data.toList = digF 2 (s.data.toList.drop 2) 0 false := by unfold numF; rw [if_neg h16, if_pos hp]
      have h2 : ((s.extract 0 2).toList == [50, 35]) = true := by rw [ext_pre (n := 2) (p := [50, 35]) rfl (by omega)]; exact hp
      have hx : 2 < (s.size : Int) := by omega
      by_cases hy : (3 : Int) < (s.size : Int)
      · have h4 : ((s.extract 0 3).toList == [49, 54, 35]) = false := by rw [ext_pre (n := 3) (p := [49, 54, 35]) rfl (by omega)]; exact Bool.eq_false_iff.2 h16
        clear h16
        have HF := fun (n E : Nat) (D : Option Nat) (B : Bool) hE hD hv hB => Lib.hid (num_fin (base := 2) (a0 := 2) (n := n) (E := E) (D := D) (B := B) (by omega) hE hD hN hv hB)
        have HS := Lib.hid hs
        clear hN hp hs h3 c16
        go_enter Tryd.func25, Tryd.ntmps25
        go_wp2_with (go_at_call 24; refine (run_2 s _ HS.out (by omega)).mono ?_; rintro e w' ⟨⟨n, hn, rfl, hv⟩, rfl⟩; obtain ⟨D, hD⟩ : ∃ D, digF 2 (tw 2 s 2) 0 false = D := ⟨_, rfl⟩; obtain ⟨E, hE⟩ : ∃ E, 2 + (tw 2 s 2).length = E := ⟨_, rfl⟩; rw [hD] at hv ⊢; rw [hE]; obtain ⟨B, hB⟩ : ∃ B, D.isSome = B := ⟨_, rfl⟩; rw [hB]; have HR := HF n E D B hE hD hv hB; clear hD hE hv HF hB; cases B)
        all_goals
          go_ret2
          refine ⟨⟨n, hn, ?_, HR.out.2⟩, rfl⟩
          rw [HR.out.1]
          first | rfl | simp
      · clear h16
        have HF := fun (n E : Nat) (D : Option Nat) (B : Bool) hE hD hv hB => Lib.hid (num_fin (base := 2) (a0 := 2) (n := n) (E := E) (D := D) (B := B) (by omega) hE hD hN hv hB)
        have HS := Lib.hid hs
        clear hN hp hs h3 c16
        go_enter Tryd.func25, Tryd.ntmps25
        go_wp2_with (go_at_call 24; refine (run_2 s _ HS.out (by omega)).mono ?_; rintro e w' ⟨⟨n, hn, rfl, hv⟩, rfl⟩; obtain ⟨D, hD⟩ : ∃ D, digF 2 (tw 2 s 2) 0 false = D := ⟨_, rfl⟩; obtain ⟨E, hE⟩ : ∃ E, 2 + (tw 2 s 2).length = E := ⟨_, rfl⟩; rw [hD] at hv ⊢; rw [hE]; obtain ⟨B, hB⟩ : ∃ B, D.isSome = B := ⟨_, rfl⟩; rw [hB]; have HR := HF n E D B hE hD hv hB; clear hD hE hv HF hB; cases B)
        all_goals
          go_ret2
          refine ⟨⟨n, hn, ?_, HR.out.2⟩, rfl⟩
          rw [HR.out.1]
          first | rfl | simp
    · have hN : numF s.data.toList = digF 10 (s.data.toList.drop 0) 0 false := by
        have key : ∀ (p : List UInt8) (b : Nat), p.isPrefixOf s.data.toList = true → s.size ≤ p.length → 35 ∈ p → digF b (s.data.toList.drop p.length) 0 false = digF 10 (s.data.toList.drop 0) 0 false := by
          intro p b hp hl hm
          rw [List.drop_of_length_le (by rw [size_data]; omega)]
          have e := pre_mem hp
          rw [List.drop_zero, dig_none (base := 10) (c := 35) (by rw [e]; exact List.mem_append_left _ hm) (by decide)]
          rfl
        unfold numF
        split
        · rename_i hp
          exact key pre16 16 hp (Nat.le_of_not_lt fun h => c16 ⟨h, hp⟩) (by simp [pre16])
        · split
          · rename_i hp
            exact key pre2 2 hp (Nat.le_of_not_lt fun h => c2 ⟨h, hp⟩) (by simp [pre2])
          · rfl
      rcases (show s.size ≤ 2 ∨ s.size = 3 ∨ 3 < s.size by omega) with hz | hz | hz
      · have hx : ¬ 2 < (s.size : Int) := by omega
        have hy : ¬ (3 : Int) < (s.size : Int) := by omega
        have HF := fun (n E : Nat) (D : Option Nat) (B : Bool) hE hD hv hB => Lib.hid (num_fin (base := 10) (a0 := 0) (n := n) (E := E) (D := D) (B := B) (by omega) hE hD hN hv hB)
        have HS := Lib.hid hs
        clear hN c2 hs hz c16
        go_enter Tryd.func25, Tryd.ntmps25
        go_wp2_with (go_at_call 24; refine (run_10 s _ HS.out).mono ?_; rintro e w' ⟨⟨n, hn, rfl, hv⟩, rfl⟩; obtain ⟨D, hD⟩ : ∃ D, digF 10 (tw 10 s 0) 0 false = D := ⟨_, rfl⟩; obtain ⟨E, hE⟩ : ∃ E, 0 + (tw 10 s 0).length = E := ⟨_, rfl⟩; rw [hD] at hv ⊢; rw [hE]; obtain ⟨B, hB⟩ : ∃ B, D.isSome = B := ⟨_, rfl⟩; rw [hB]; have HR := HF n E D B hE hD hv hB; clear hD hE hv HF hB; cases B)
        all_goals
          go_ret2
          refine ⟨⟨n, hn, ?_, HR.out.2⟩, rfl⟩
          rw [HR.out.1]
          first | rfl | simp
      · have hx : 2 < (s.size : Int) := by omega
        have hy : ¬ (3 : Int) < (s.size : Int) := by omega
        have h2 : ((s.extract 0 2).toList == [50, 35]) = false := by rw [ext_pre (n := 2) (p := [50, 35]) rfl (by omega)]; exact Bool.eq_false_iff.2 fun h => c2 ⟨by omega, h⟩
        have HF := fun (n E : Nat) (D : Option Nat) (B : Bool) hE hD hv hB => Lib.hid (num_fin (base := 10) (a0 := 0) (n := n) (E := E) (D := D) (B := B) (by omega) hE hD hN hv hB)
        have HS := Lib.hid hs
        clear hN c2 hs hz c16
        go_enter Tryd.func25, Tryd.ntmps25
        go_wp2_with (go_at_call 24; refine (run_10 s _ HS.out).mono ?_; rintro e w' ⟨⟨n, hn, rfl, hv⟩, rfl⟩; obtain ⟨D, hD⟩ : ∃ D, digF 10 (tw 10 s 0) 0 false = D := ⟨_, rfl⟩; obtain ⟨E, hE⟩ : ∃ E, 0 + (tw 10 s 0).length = E := ⟨_, rfl⟩; rw [hD] at hv ⊢; rw [hE]; obtain ⟨B, hB⟩ : ∃ B, D.isSome = B := ⟨_, rfl⟩; rw [hB]; have HR := HF n E D B hE hD hv hB; clear hD hE hv HF hB; cases B)
        all_goals
          go_ret2
          refine ⟨⟨n, hn, ?_, HR.out.2⟩, rfl⟩
          rw [HR.out.1]
          first | rfl | simp
      · have hx : 2 < (s.size : Int) := by omega
        have hy : (3 : Int) < (s.size : Int) := by omega
        have h2 : ((s.extract 0 2).toList == [50, 35]) = false := by rw [ext_pre (n := 2) (p := [50, 35]) rfl (by omega)]; exact Bool.eq_false_iff.2 fun h => c2 ⟨by omega, h⟩
        have h4 : ((s.extract 0 3).toList == [49, 54, 35]) = false := by rw [ext_pre (n := 3) (p := [49, 54, 35]) rfl (by omega)]; exact Bool.eq_false_iff.2 fun h => c16 ⟨by omega, h⟩
        have HF := fun (n E : Nat) (D : Option Nat) (B : Bool) hE hD hv hB => Lib.hid (num_fin (base := 10) (a0 := 0) (n := n) (E := E) (D := D) (B := B) (by omega) hE hD hN hv hB)
        have HS := Lib.hid hs
        clear hN c2 hs hz c16
        go_enter Tryd.func25, Tryd.ntmps25
        go_wp2_with (go_at_call 24; refine (run_10 s _ HS.out).mono ?_; rintro e w' ⟨⟨n, hn, rfl, hv⟩, rfl⟩; obtain ⟨D, hD⟩ : ∃ D, digF 10 (tw 10 s 0) 0 false = D := ⟨_, rfl⟩; obtain ⟨E, hE⟩ : ∃ E, 0 + (tw 10 s 0).length = E := ⟨_, rfl⟩; rw [hD] at hv ⊢; rw [hE]; obtain ⟨B, hB⟩ : ∃ B, D.isSome = B := ⟨_, rfl⟩; rw [hB]; have HR := HF n E D B hE hD hv hB; clear hD hE hv HF hB; cases B)
        all_goals
          go_ret2
          refine ⟨⟨n, hn, ?_, HR.out.2⟩, rfl⟩
          rw [HR.out.1]
          first | rfl | simp
theorem Small_any (c : UInt8) (w : World) : Calls Tryd.prog 39 #[.int .u8 (c.toNat : Int)] w fun e w' => e = .returned (.int .u8 ((Lib.lowerB c).toNat : Int)) ∧ w' = w := by
  by_cases h : 65 ≤ (c.toNat : Int) ∧ (c.toNat : Int) ≤ 90
  · obtain ⟨h1, h2⟩ := h
    have hl : ((Lib.lowerB c).toNat : Int) = (c.toNat : Int) + 32 := Lib.lowerB_int c (by rw [Lib.isUpperB_int]; simp [h1, h2])
    rw [hl]
    clear hl
    go_enter Tryd.func39, Tryd.ntmps39
    go_wp2
    go_ret
    exact ⟨ret_int (by first | rfl | (simp [IntKind.wrap, IntKind.bits, IntKind.signed]; omega)), rfl⟩
  · have hl : Lib.lowerB c = c := Lib.lowerB_of_not c (by rw [Lib.isUpperB_int]; simp only [Bool.and_eq_false_iff, decide_eq_false_iff_not]; omega)
    rw [hl]
    clear hl
    rcases (show (c.toNat : Int) < 65 ∨ (90 : Int) < (c.toNat : Int) by omega) with h1 | h1
    · have h2 : ¬ (65 : Int) ≤ (c.toNat : Int) := by omega
      go_enter Tryd.func39, Tryd.ntmps39
      go_wp2
      go_ret
      exact ⟨rfl, rfl⟩
    · have h2 : (65 : Int) ≤ (c.toNat : Int) := by omega
      have h3 : ¬ (c.toNat : Int) ≤ 90 := by omega
      go_enter Tryd.func39, Tryd.ntmps39
      go_wp2
      go_ret
      exact ⟨rfl, rfl⟩
end Go.Proofs.YtckjnlonijodcaaDoor.Tx
