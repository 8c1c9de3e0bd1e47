/-
  The program's digits: what a text of digits of a base says. No conditions but that the text fits a machine.
-/
import Derived.Test.YtckjnlonijodcaaDoorTx1
namespace Go.Proofs.YtckjnlonijodcaaDoor.Tx
open Go.RowKit Go.Proofs.YtckjnlonijodcaaDoor.W Go.Proofs.YtckjnlonijodcaaDoor.Num Go.Proofs.YtckjnlonijodcaaDoor.Cell

theorem dig_step (base N : Nat) (G : Bool) (c : UInt8) (l : List UInt8) : digF base (c :: l) N G = if c.toNat = 95 ∧ G = true then digF base l N false else if dgV c < base then digF base l (N * base + dgV c) true else none := rfl
theorem drop_byte (s : ByteArray) (k : Nat) (h : k < s.size) : s.data.toList.drop k = s[k] :: s.data.toList.drop (k + 1) := by
  rw [List.drop_eq_getElem_cons (by simpa using h)]
  rfl
theorem size_data (s : ByteArray) : s.data.toList.length = s.size := Array.length_toList
theorem dig_next {N n base d : Nat} {x : Int} (hn : min N lidN = n) (hb' : base ≤ 16) (hd : d ≤ 99) (hx : x = (d : Int)) (hb : 2 ≤ base) :
    (if (1099511627776 : Int) < wrap64 (wrap64 ((n : Int) * (base : Int)) + x) then 1099511627776 else wrap64 (wrap64 ((n : Int) * (base : Int)) + x)) = ((min (N * base + d) lidN : Nat) : Int) := by
  subst hx
  rw [← cap_dig N d base lidN (by omega), hn]
  have h1 : n ≤ lidN := by omega
  have h2 : n * base ≤ lidN * 16 := Nat.mul_le_mul h1 hb'
  unfold lidN at *
  rw [← Int.natCast_mul, wrap64_in ((n * base : Nat) : Int) (by omega) (by omega), ← Int.natCast_add, wrap64_in ((n * base + d : Nat) : Int) (by omega) (by omega)]
  split <;> omega
/-- what digits hands back -/
def DigR (e : Ending) (D : Option Nat) (M : Nat) : Prop := ∃ n : Nat, n ≤ M ∧ e = .returned (.tuple #[.int .i64 (n : Int), .bool D.isSome]) ∧ ∀ V, D = some V → n = min V M
set_option maxHeartbeats 3200000 in
theorem digits_any (s : ByteArray) (base : Nat) (w : World) (hb : 2 ≤ base) (hb' : base ≤ 16) (hs : s.size ≤ maxLen) :
    Calls Tryd.prog 19 #[.string s, .int .i64 (base : Int)] w fun e w' => DigR e (digF base s.data.toList 0 false) lidN ∧ w' = w := by
  unfold maxLen at hs
  obtain ⟨D, hD⟩ : ∃ D, digF base s.data.toList 0 false = D := ⟨_, rfl⟩
  rw [hD]
  have HD := Lib.hid hD
  clear hD
  go_enter Tryd.func19, Tryd.ntmps19
  go_wp2
  go_loop [6, 7, 8] (fun n g i => ∃ (k N : Nat) (G : Bool), k ≤ s.size ∧ i = .int .i64 (k : Int) ∧ n = .int .i64 ((min N lidN : Nat) : Int) ∧ g = .bool G ∧ Hid (digF base (s.data.toList.drop k) N G = D)) (fun _ _ i => s.size - (intOf i).toNat)
  case atStart => exact ⟨0, 0, false, Nat.zero_le _, rfl, rfl, rfl, by simpa using HD⟩
  case round =>
    obtain ⟨k, N, G, hk, rfl, rfl, rfl, hN⟩ := hrel
    have hcap : min N lidN ≤ lidN := Nat.min_le_right _ _
    obtain ⟨n, hn⟩ : ∃ n, min N lidN = n := ⟨_, rfl⟩
    rw [hn] at hcap ⊢
    have HN := Lib.hid hn
    clear hn
    have hl : lidN = 1099511627776 := rfl
    by_cases hlt : k < s.size
    · have hdr := drop_byte s k hlt
      obtain ⟨c, hc⟩ : ∃ c, s[k] = c := ⟨_, rfl⟩
      have hst : Hid ((if c.toNat = 95 ∧ G = true then digF base (s.data.toList.drop (k + 1)) N false else if dgV c < base then digF base (s.data.toList.drop (k + 1)) (N * base + dgV c) true else none) = D) := by
        have := hN.out
        rw [hdr, hc, dig_step] at this
        exact Lib.hid this
      clear hdr hN
      have hc0 := c.toNat_lt
      have hdn : dgV c < base → (dgV c : Int) < base := fun h => by omega
      have hno : ∀ y : Nat, dgV c = y → ¬ (y : Int) < (base : Int) → ¬ (c.toNat = 95 ∧ G = true) → D = none := fun y hy hlt hu => by
        have := hst.out
        rw [if_neg hu, if_neg (by omega)] at this
        exact this.symm
      have hyes : ∀ y : Nat, dgV c = y → (y : Int) < (base : Int) → ¬ (c.toNat = 95 ∧ G = true) → Hid (digF base (s.data.toList.drop (k + 1)) (N * base + y) true = D) := fun y hy hlt hu => by
        have := hst.out
        rw [if_neg hu, if_pos (by omega), hy] at this
        exact Lib.hid this
      have HNO := Lib.hid hno
      have HYES := Lib.hid hyes
      clear hno hyes
      rcases (show (48 ≤ c.toNat ∧ c.toNat ≤ 57) ∨ (97 ≤ c.toNat ∧ c.toNat ≤ 102) ∨ (¬ (48 ≤ c.toNat ∧ c.toNat ≤ 57) ∧ ¬ (97 ≤ c.toNat ∧ c.toNat ≤ 102)) by omega) with h | h | h
      · have h1 : (48 : Int) ≤ (c.toNat : Int) := by omega
        have h2 : (c.toNat : Int) ≤ 57 := by omega
        have hd : dgV c = c.toNat - 48 := by simp [dgV, h]
        go_wp2
        · go_ret2
          rw [HNO.out _ hd (by omega) (by omega)]
          exact ⟨⟨0, by omega, rfl, fun V h => by cases h⟩, rfl⟩
        · go_round
          case rel => exact ⟨k + 1, N * base + (c.toNat - 48), true, by omega, by go_num, by rw [dig_next (d := c.toNat - 48) HN.out hb' (by omega) (by omega) hb], rfl, HYES.out _ hd (by omega) (by omega)⟩
          case measure => simp [intOf]; omega
      · have h0 : ¬ (c.toNat : Int) ≤ 57 := by omega
        have h1 : (97 : Int) ≤ (c.toNat : Int) := by omega
        have h2 : (c.toNat : Int) ≤ 102 := by omega
        have h3 : ¬ ((c.toNat : Int) = 95) := by omega
        have hd : dgV c = c.toNat - 87 := by simp [dgV, h]; omega
        go_wp2
        · go_ret2
          rw [HNO.out _ hd (by omega) (by omega)]
          exact ⟨⟨0, by omega, rfl, fun V h => by cases h⟩, rfl⟩
        · go_round
          case rel => exact ⟨k + 1, N * base + (c.toNat - 87), true, by omega, by go_num, by rw [dig_next (d := c.toNat - 87) HN.out hb' (by omega) (by omega) hb], rfl, HYES.out _ hd (by omega) (by omega)⟩
          case measure => simp [intOf]; omega
      · have hd : dgV c = 99 := by simp [dgV, h]
        have hz : (base : Int) ≤ 99 := by omega
        have h0 : (decide ((48 : Int) ≤ (c.toNat : Int)) && decide ((c.toNat : Int) ≤ 57)) = false := by simp only [Bool.and_eq_false_iff, decide_eq_false_iff_not]; omega
        have h1 : (decide ((97 : Int) ≤ (c.toNat : Int)) && decide ((c.toNat : Int) ≤ 102)) = false := by simp only [Bool.and_eq_false_iff, decide_eq_false_iff_not]; omega
        by_cases h95 : (c.toNat : Int) = 95
        · have h95' : c.toNat = 95 := by omega
          cases G
          · go_wp2
            go_ret2
            rw [HNO.out _ hd (by omega) (by simp)]
            exact ⟨⟨0, by omega, rfl, fun V h => by cases h⟩, rfl⟩
          · have HU : Hid (digF base (s.data.toList.drop (k + 1)) N false = D) := by
              have := hst.out
              rw [if_pos ⟨h95', rfl⟩] at this
              exact Lib.hid this
            go_wp2
            go_round
            case rel => exact ⟨k + 1, N, false, by omega, by go_num, by rw [HN.out], rfl, HU⟩
            case measure => simp [intOf]; omega
        · go_wp2
          all_goals
            go_ret2
            rw [HNO.out _ hd (by omega) (by omega)]
            exact ⟨⟨0, by omega, rfl, fun V h => by cases h⟩, rfl⟩
    · have hD : D = if G then some N else none := by
        have := hN.out
        rw [List.drop_of_length_le (by rw [size_data]; omega)] at this
        exact this.symm
      have HE : Hid (∀ V, D = some V → n = min V lidN) := Lib.hid fun V hV => by
        rw [hD] at hV
        cases G
        · cases hV
        · injection hV with hV
          rw [← hV]
          exact HN.out.symm
      have hI : D.isSome = G := by rw [hD]; cases G <;> rfl
      clear hD
      go_wp2
      go_ret2
      exact ⟨⟨n, by omega, by rw [hI]; rfl, HE.out⟩, rfl⟩
end Go.Proofs.YtckjnlonijodcaaDoor.Tx
