/-
  Contracts of bus's and the reference's looks at words. Conditions: the words read; their number is a length.
-/
import Derived.Test.YtdncdmibmopilaaInts
import Derived.Test.YtdncdmibmopilaaClone
namespace Go.Proofs.Ytdncdmibmopilaa.Bus
open Go.RowKit Go.Proofs.Ytdncdmibmopilaa.W Go.Proofs.Ytdncdmibmopilaa.Ints

def wordB (z : Int) : Bool := decide (0 ≤ z) && decide (z ≤ 65535)
def speltE (zs : List Int) : Int := if 60 < zs.length then 4 else if zs.all wordB then 0 else 3

theorem all_take {p : Int → Bool} {zs : List Int} {k : Nat} (hk : k < zs.length) (h : (zs.take k).all p = true) (hp : p (zs.getD k 0) = true) : (zs.take (k + 1)).all p = true := by
  rw [List.take_succ_eq_append_getElem hk, List.all_append, h]
  simp [List.getD_eq_getElem?_getD, List.getElem?_eq_getElem hk] at hp
  simp [hp]
theorem all_not {p : Int → Bool} {zs : List Int} {k : Nat} (hk : k < zs.length) (hp : p (zs.getD k 0) = false) : zs.all p = false := by
  rw [List.all_eq_false]
  refine ⟨zs[k], List.getElem_mem hk, ?_⟩
  simp [List.getD_eq_getElem?_getD, List.getElem?_eq_getElem hk] at hp
  simp [hp]

set_option maxHeartbeats 400000 in
theorem spelt_any (A : Option Addr) (n c : Nat) (zs : List Int) (w : World) (hr : Rd w 1 A n (ints zs)) (hn : n ≤ maxLen) :
    Calls Try.prog 30 #[.slice A n c] w fun e w' => e = .returned (.int .i64 (speltE zs)) ∧ w = w' := by
  unfold maxLen at hn
  have hl := rd_len hr
  by_cases h60 : 60 < n
  · have hF : speltE zs = 4 := by simp [speltE, hl, h60]
    rw [hF]
    clear hF hl hr
    go_enter Try.func30, Try.ntmps30
    go_wp2
    go_ret
    exact ⟨rfl, rfl⟩
  · have hF : speltE zs = if zs.all wordB then 0 else 3 := by simp [speltE, hl, h60]
    have HS := Lib.hid hF
    have HR := Lib.hid hr
    have HL := Lib.hid hl
    clear hF hl hr
    go_enter Try.func30, Try.ntmps30
    go_wp2
    go_loop [3] (fun i => ∃ k : Nat, k ≤ n ∧ i = .int .i64 k ∧ Hid ((zs.take k).all wordB = true)) (fun i => n - (intOf i).toNat)
    case atStart => exact ⟨0, Nat.zero_le _, rfl, by simp [Hid]⟩
    case round =>
      obtain ⟨k, hk, rfl, ha⟩ := hrel
      by_cases hlt : k < n
      · obtain ⟨b, o, rfl, hc⟩ := rd_at HR.out (by omega)
        have h1 := hc k hlt
        clear hc
        generalize hu : zs.getD k 0 = u at h1
        have HU := Lib.hid hu
        clear hu
        have hw : (u < 0 ∨ 65535 < u ∧ 0 ≤ u) ∨ (0 ≤ u ∧ u ≤ 65535) := by omega
        rcases hw with hw | ⟨hw1, hw2⟩
        · have hfin : (3 : Int) = speltE zs := by
            rw [HS.out, all_not (p := wordB) (k := k) (by rw [HL.out]; exact hlt) (by rw [HU.out]; simp only [wordB, Bool.and_eq_false_iff, decide_eq_false_iff_not]; omega)]
            rfl
          have HF := Lib.hid hfin
          clear hfin
          rcases hw with hw | ⟨hw1, hw2⟩
          all_goals go_wp2
          all_goals go_ret
          all_goals exact ⟨ret_int HF.out, rfl⟩
        · go_wp2
          go_round
          case rel => exact ⟨k + 1, by omega, by go_num, all_take (by rw [HL.out]; exact hlt) ha.out (by rw [HU.out]; simp [wordB, hw1, hw2])⟩
          case measure => simp [intOf]; omega
      · have hfin : (0 : Int) = speltE zs := by
          have h := ha.out
          rw [List.take_of_length_le (by rw [HL.out]; omega)] at h
          rw [HS.out, h]
          rfl
        have HF := Lib.hid hfin
        clear hfin
        go_wp2
        go_ret
        exact ⟨ret_int HF.out, rfl⟩

theorem within_any (n m : Int) (w : World) :
    Calls Try.prog 32 #[.int .i64 n, .int .i64 m] w fun e w' => e = .returned (.bool (decide (0 ≤ n) && decide (n ≤ m))) ∧ w = w' := by
  go_enter Try.func32, Try.ntmps32
  go_wp2
  all_goals go_ret
  all_goals refine ⟨ret_bool ?_, rfl⟩
  all_goals (rw [Bool.eq_iff_iff]; simp; try omega)

theorem words1_any (n : Int) (w : World) :
    Calls Try.prog 46 #[.int .i64 n] w fun e w' => e = .returned (.bool (!wordB n)) ∧ w = w' := by
  go_enter Try.func46, Try.ntmps46
  go_wp2_with (go_at_call 32; refine (within_any _ _ _).mono ?_; rintro e w' ⟨rfl, rfl⟩)
  go_ret
  exact ⟨ret_bool (by simp [wordB]), rfl⟩

set_option maxHeartbeats 400000 in
/-- IndexFunc at words' test: not found just where all are words -/
theorem IndexFunc_any (A : Option Addr) (n c : Nat) (zs : List Int) (w : World) (hr : Rd w 1 A n (ints zs)) (hn : n ≤ maxLen) :
    Calls Try.prog 49 #[.slice A n c, .func (.func 46) #[] #[]] w fun e w' => (∃ k : Int, e = .returned (.int .i64 k) ∧ (decide (0 ≤ k) = !zs.all wordB)) ∧ w = w' := by
  unfold maxLen at hn
  have HL := Lib.hid (rd_len hr)
  have HR := Lib.hid hr
  clear hr
  go_enter Try.func49, Try.ntmps49
  go_wp2
  go_loop [5, 8] (fun _ i => ∃ k : Nat, k ≤ n ∧ i = .int .i64 k ∧ Hid ((zs.take k).all wordB = true)) (fun _ i => n - (intOf i).toNat)
  case atStart => exact ⟨0, Nat.zero_le _, rfl, by simp [Hid]⟩
  case round =>
    obtain ⟨k, hk, rfl, ha⟩ := hrel
    by_cases hlt : k < n
    · obtain ⟨b, o, rfl, hc⟩ := rd_at HR.out (by omega)
      have h1 := hc k hlt
      clear hc
      generalize hu : zs.getD k 0 = u at h1
      have HU := Lib.hid hu
      clear hu
      cases hw : wordB u
      all_goals have HW := Lib.hid hw
      all_goals clear hw
      all_goals go_wp2_with (go_at_call 46; refine (words1_any _ _).mono ?_; rintro e w' ⟨rfl, rfl⟩; rw [HW.out])
      · go_ret
        refine ⟨⟨k, rfl, ?_⟩, rfl⟩
        rw [all_not (p := wordB) (k := k) (by rw [HL.out]; exact hlt) (by rw [HU.out]; exact HW.out)]
        simp
      · go_round
        case rel => exact ⟨k + 1, by omega, by go_num, all_take (by rw [HL.out]; exact hlt) ha.out (by rw [HU.out]; exact HW.out)⟩
        case measure => simp [intOf]; omega
    · go_wp2
      go_ret
      refine ⟨⟨-1, rfl, ?_⟩, rfl⟩
      have h := ha.out
      rw [List.take_of_length_le (by rw [HL.out]; omega)] at h
      rw [h]
      simp

theorem ContainsFunc_any (A : Option Addr) (n c : Nat) (zs : List Int) (w : World) (hr : Rd w 1 A n (ints zs)) (hn : n ≤ maxLen) :
    Calls Try.prog 45 #[.slice A n c, .func (.func 46) #[] #[]] w fun e w' => e = .returned (.bool (!zs.all wordB)) ∧ w = w' := by
  have HR := Lib.hid hr
  clear hr
  go_enter Try.func45, Try.ntmps45
  go_wp2_with fail
  refine (IndexFunc_any A n c zs _ HR.out hn).mono ?_
  rintro e w' ⟨⟨k, rfl, hk⟩, rfl⟩
  have HK := Lib.hid hk
  clear hk
  go_wp2
  go_ret
  exact ⟨ret_bool (by rw [← HK.out]), rfl⟩

theorem words_any (A : Option Addr) (n c : Nat) (zs : List Int) (w : World) (hr : Rd w 1 A n (ints zs)) (hn : n ≤ maxLen) :
    Calls Try.prog 33 #[.slice A n c] w fun e w' => e = .returned (.int .i64 (speltE zs)) ∧ w = w' := by
  have hl := rd_len hr
  have HR := Lib.hid hr
  clear hr
  by_cases h60 : 60 < n
  · have hF : speltE zs = 4 := by simp [speltE, hl, h60]
    rw [hF]
    clear hF hl
    go_enter Try.func33, Try.ntmps33
    go_wp2
    go_ret
    exact ⟨rfl, rfl⟩
  · cases ha : zs.all wordB
    · have hF : speltE zs = 3 := by simp [speltE, hl, h60, ha]
      rw [hF]
      have HA := Lib.hid ha
      clear hF hl ha
      go_enter Try.func33, Try.ntmps33
      go_wp2_with (go_at_call 45; refine (ContainsFunc_any A n c zs _ HR.out hn).mono ?_; rintro e w' ⟨rfl, rfl⟩; rw [HA.out])
      go_ret
      exact ⟨rfl, rfl⟩
    · have hF : speltE zs = 0 := by simp [speltE, hl, h60, ha]
      rw [hF]
      have HA := Lib.hid ha
      clear hF hl ha
      go_enter Try.func33, Try.ntmps33
      go_wp2_with (go_at_call 45; refine (ContainsFunc_any A n c zs _ HR.out hn).mono ?_; rintro e w' ⟨rfl, rfl⟩; rw [HA.out])
      go_ret
      exact ⟨rfl, rfl⟩
end Go.Proofs.Ytdncdmibmopilaa.Bus
