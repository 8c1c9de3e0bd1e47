/-
  What is shown is read: in plain words. No conditions.
-/
import Derived.Test.YtckjnlonijodcaaDoorTxJ
namespace Go.Proofs.YtckjnlonijodcaaDoor.Tx
open Go.RowKit Go.Proofs.YtckjnlonijodcaaDoor.W Go.Proofs.YtckjnlonijodcaaDoor.Num Go.Proofs.YtckjnlonijodcaaDoor.Cell

theorem dec_bytes : ∀ u : Nat, ∀ c ∈ Go.Lib.decDigits u, 48 ≤ c.toNat ∧ c.toNat ≤ 57 := by
  intro u
  induction u using Nat.strongRecOn with
  | _ u ih =>
    intro c hc
    by_cases h : u < 10
    · rw [dec_one h] at hc
      simp only [List.mem_singleton] at hc
      rw [hc, toNat_48 h]
      omega
    · rw [dec_more h] at hc
      rcases List.mem_append.1 hc with h' | h'
      · exact ih (u / 10) (by omega) c h'
      · simp only [List.mem_singleton] at h'
        rw [h', toNat_48 (Nat.mod_lt _ (by omega))]
        have := Nat.mod_lt u (show 10 > 0 by omega)
        omega
theorem dgV_48 {d : Nat} (h : d < 10) : dgV (UInt8.ofNat (48 + d)) = d ∧ ¬ (UInt8.ofNat (48 + d)).toNat = 95 := by
  have := toNat_48 h
  unfold dgV
  rw [this]
  exact ⟨by rw [if_pos (by omega)]; omega, by omega⟩
theorem dig_dec : ∀ (u : Nat) (l : List UInt8) (g : Bool), digF 10 (Go.Lib.decDigits u ++ l) 0 g = digF 10 l u true := by
  intro u
  induction u using Nat.strongRecOn with
  | _ u ih =>
    intro l g
    by_cases h : u < 10
    · rw [dec_one h]
      obtain ⟨h1, h2⟩ := dgV_48 h
      rw [List.singleton_append, dig_step, if_neg (fun e => h2 e.1), h1, if_pos h]
      simp
    · rw [dec_more h, List.append_assoc, ih (u / 10) (by omega)]
      obtain ⟨h1, h2⟩ := dgV_48 (Nat.mod_lt u (show 10 > 0 by omega))
      rw [List.singleton_append, dig_step, if_neg (fun e => h2 e.1), h1, if_pos (Nat.mod_lt u (by omega))]
      congr 1
      omega
theorem dec_num (u : Nat) : digF 10 (Go.Lib.decDigits u) 0 false = some u := by
  have := dig_dec u [] false
  rw [List.append_nil] at this
  rw [this]
  rfl
theorem low_dec (u : Nat) : (Go.Lib.decDigits u).map Go.Lib.lowerB = Go.Lib.decDigits u := by
  conv => rhs; rw [← List.map_id (Go.Lib.decDigits u)]
  refine List.map_congr_left fun c hc => ?_
  have := dec_bytes u c hc
  exact Go.Lib.lowerB_of_not c (by rw [Go.Lib.isUpperB_int]; simp only [Bool.and_eq_false_iff, decide_eq_false_iff_not]; omega)
theorem num_dec (u : Nat) : numF (Go.Lib.decDigits u) = some u := by
  have key : ∀ p : List UInt8, (35 : UInt8) ∈ p → ¬ p.isPrefixOf (Go.Lib.decDigits u) = true := fun p hp h => by
    have e := pre_mem h
    have := dec_bytes u 35 (by rw [e]; exact List.mem_append_left _ hp)
    simp at this
  unfold numF
  rw [if_neg (key pre16 (by simp [pre16])), if_neg (key pre2 (by simp [pre2])), dec_num]
theorem dec_len10 : ∀ (k u : Nat), u < 10 ^ (k + 1) → (Go.Lib.decDigits u).length ≤ k + 1
  | 0, u, h => by rw [dec_one (by simpa using h)]; simp
  | k + 1, u, h => by
    by_cases h1 : u < 10
    · rw [dec_one h1]; simp
    · rw [dec_more h1, List.length_append]
      have := dec_len10 k (u / 10) (by rw [Nat.pow_succ] at h; omega)
      simp
      omega
theorem lex_low : ∀ d : Fin 16, Go.Lib.lowerB (hexD d.val) = lexD d.val ∧ dgV (lexD d.val) = d.val ∧ ¬ (lexD d.val).toNat = 95 := by decide
theorem hex_low : ∀ u : Nat, (hexU u).map Go.Lib.lowerB = lexU u := by
  intro u
  induction u using Nat.strongRecOn with
  | _ u ih =>
    by_cases h : u < 16
    · rw [lex_one h, hex_one h]
      simpa using (lex_low ⟨u, h⟩).1
    · rw [lex_more h, hex_more h, List.map_append, ih (u / 16) (by omega)]
      simpa using (lex_low ⟨u % 16, Nat.mod_lt _ (by omega)⟩).1
theorem dig_lex : ∀ (u : Nat) (l : List UInt8) (g : Bool), digF 16 (lexU u ++ l) 0 g = digF 16 l u true := by
  intro u
  induction u using Nat.strongRecOn with
  | _ u ih =>
    intro l g
    by_cases h : u < 16
    · rw [lex_one h]
      obtain ⟨_, h1, h2⟩ := lex_low ⟨u, h⟩
      rw [List.singleton_append, dig_step, if_neg (fun e => h2 e.1), h1, if_pos h]
      simp
    · rw [lex_more h, List.append_assoc, ih (u / 16) (by omega)]
      obtain ⟨_, h1, h2⟩ := lex_low ⟨u % 16, Nat.mod_lt u (show 16 > 0 by omega)⟩
      simp only at h1 h2
      rw [List.singleton_append, dig_step, if_neg (fun e => h2 e.1), h1, if_pos (Nat.mod_lt u (by omega))]
      congr 1
      omega
theorem lex_num (u : Nat) : digF 16 (lexU u) 0 false = some u := by
  have := dig_lex u [] false
  rw [List.append_nil] at this
  rw [this]
  rfl

/-! ### times -/
def TF (l : List UInt8) (last S : Nat) : Option Nat := timeF (l.length + 1) l last S
/-- begins with a digit, or not at all -/
def DigHead (l : List UInt8) : Prop := ∀ c r, l = c :: r → 48 ≤ c.toNat ∧ c.toNat ≤ 57
theorem dec_ne (u : Nat) : Go.Lib.decDigits u ≠ [] := by
  by_cases h : u < 10
  · rw [dec_one h]; simp
  · rw [dec_more h]; simp
theorem tf_part {q w last S : Nat} {u r : List UInt8} {c : UInt8} {u' : List UInt8} (hu : u = c :: u') (hc : isD 10 c = false) (hx : unitF (u ++ r) = (w, u.length)) (hw : w ≠ 0) (hl : w < last) : TF (Go.Lib.decDigits q ++ (u ++ r)) last S = TF r w (S + q * w) := by
  have ht : (Go.Lib.decDigits q ++ (u ++ r)).takeWhile (isD 10) = Go.Lib.decDigits q ∧ (Go.Lib.decDigits q ++ (u ++ r)).dropWhile (isD 10) = u ++ r := by
    have hall : ∀ x ∈ Go.Lib.decDigits q, isD 10 x = true := fun x hx => by
      have := dec_bytes q x hx
      rw [isD_ten]
      simp
      omega
    rw [List.takeWhile_append_of_pos hall, List.dropWhile_append_of_pos hall, hu, List.cons_append, List.takeWhile_cons_of_neg (by simp [hc]), List.dropWhile_cons_of_neg (by simp [hc])]
    simp
  unfold TF
  rw [timeF, if_neg (by simp [dec_ne]), ht.1, ht.2, dec_num]
  simp only
  rw [if_neg (by rw [hu]; simp), hx]
  simp only
  rw [if_neg (by omega), List.drop_left]
  refine time_more _ _ _ _ _ ?_ (by omega)
  rw [hu]
  simp
  omega
end Go.Proofs.YtckjnlonijodcaaDoor.Tx
