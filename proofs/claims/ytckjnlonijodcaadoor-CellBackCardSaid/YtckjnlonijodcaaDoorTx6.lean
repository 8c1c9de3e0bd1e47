/-
  The reference's times. No conditions but that the text fits a machine.
-/
import Derived.Test.YtckjnlonijodcaaDoorTx4
namespace Go.Proofs.YtckjnlonijodcaaDoor.Tx
open Go.RowKit Go.Proofs.YtckjnlonijodcaaDoor.W Go.Proofs.YtckjnlonijodcaaDoor.Num Go.Proofs.YtckjnlonijodcaaDoor.Cell

theorem drop_while (base : Nat) (s : ByteArray) (k : Nat) : (s.data.toList.drop k).dropWhile (isD base) = s.data.toList.drop (k + (tw base s k).length) := by
  have e := List.takeWhile_append_dropWhile (p := isD base) (l := s.data.toList.drop k)
  rw [← List.drop_drop]
  unfold tw
  generalize s.data.toList.drop k = l at *
  conv => rhs; arg 2; rw [← e]
  rw [List.drop_left]
theorem tw_len (base : Nat) (s : ByteArray) (k : Nat) (hk : k ≤ s.size) : k + (tw base s k).length ≤ s.size := by
  have := (List.takeWhile_prefix (isD base) (l := s.data.toList.drop k)).length_le
  rw [List.length_drop, size_data] at this
  unfold tw
  omega
/-- a time that is being read: what is left says D -/
def TimI (s : ByteArray) (k last S : Nat) (D : Option Nat) : Prop := timeF (s.size + 1) (s.data.toList.drop k) last S = D
theorem tim_step {s : ByteArray} {k last S : Nat} {D : Option Nat} (h : TimI s k last S D) (hk : k < s.size) {E : Nat} (hE : k + (tw 10 s k).length = E) {X : Option Nat} (hX : digF 10 (tw 10 s k) 0 false = X) :
    (X = none → D = none) ∧ (E = s.size → D = none) ∧ (E < s.size → (unitF (s.data.toList.drop E)).1 = 0 ∨ last ≤ (unitF (s.data.toList.drop E)).1 → D = none)
    ∧ ∀ V w z, X = some V → E < s.size → unitF (s.data.toList.drop E) = (w, z) → w ≠ 0 → w < last → TimI s (E + z) w (S + V * w) D ∧ E + z ≤ s.size ∧ 1 ≤ z := by
  unfold TimI at h
  have hne : s.data.toList.drop k ≠ [] := by
    intro e
    have := congrArg List.length e
    rw [List.length_drop, size_data] at this
    simp at this
    omega
  unfold timeF at h
  rw [if_neg hne, drop_while, hE] at h
  change (match digF 10 (tw 10 s k) 0 false with | none => none | some n => _) = D at h
  rw [hX] at h
  have hend : E < s.size → s.data.toList.drop E ≠ [] := by
    intro hl e
    have := congrArg List.length e
    rw [List.length_drop, size_data] at this
    simp at this
    omega
  refine ⟨fun e => ?_, fun e => ?_, fun hl e => ?_, fun V w z e hl hu h0 h1 => ?_⟩
  · rw [e] at h; exact h.symm
  · cases X with
    | none => exact h.symm
    | some v =>
      simp only at h
      rw [if_pos (List.drop_of_length_le (by rw [size_data]; omega))] at h
      exact h.symm
  · cases X with
    | none => exact h.symm
    | some v =>
      simp only at h
      rw [if_neg (hend hl), if_pos e] at h
      exact h.symm
  · subst e
    simp only at h
    rw [if_neg (hend hl), hu, if_neg (by simp only; omega)] at h
    have hlen := unit_len (s.data.toList.drop E)
    rw [hu, List.length_drop, size_data] at hlen
    have hz := hlen.2.1 (by simpa using h0)
    simp only at hz h hlen
    refine ⟨?_, by omega, hz⟩
    unfold TimI
    rw [← h, List.drop_drop]
    exact time_more _ _ _ _ _ (by rw [List.length_drop, size_data]; omega) (by rw [List.length_drop, size_data]; omega)
theorem tim_end {s : ByteArray} {k last S : Nat} {D : Option Nat} (h : TimI s k last S D) (hk : s.size ≤ k) : D = some S := by
  unfold TimI timeF at h
  rw [if_pos (List.drop_of_length_le (by rw [size_data]; omega))] at h
  exact h.symm
/-- the unit at a place, by its letters -/
theorem unit_at {s : ByteArray} {E : Nat} (hE : E < s.size) {c : UInt8} (hc : s[E] = c) :
    (c.toNat = 100 → unitF (s.data.toList.drop E) = (86400000, 1)) ∧ (c.toNat = 104 → unitF (s.data.toList.drop E) = (3600000, 1)) ∧ (c.toNat = 115 → unitF (s.data.toList.drop E) = (1000, 1))
    ∧ (c.toNat = 109 → (¬ E + 1 < s.size → unitF (s.data.toList.drop E) = (60000, 1)) ∧ ∀ (h : E + 1 < s.size), unitF (s.data.toList.drop E) = if s[E + 1].toNat = 115 then (1, 2) else (60000, 1))
    ∧ (c.toNat ≠ 100 → c.toNat ≠ 104 → c.toNat ≠ 115 → c.toNat ≠ 109 → (unitF (s.data.toList.drop E)).1 = 0) := by
  have key : ∀ (n : Nat) (hn : n < 256), c.toNat = n → c = UInt8.ofNat n := fun n hn h => by rw [← h]; simp
  rw [drop_byte s E hE, hc]
  refine ⟨fun h => ?_, fun h => ?_, fun h => ?_, fun h => ⟨fun h1 => ?_, fun h1 => ?_⟩, fun h1 h2 h3 h4 => ?_⟩
  · rw [key 100 (by omega) h]; simp [unitF, List.isPrefixOf]
  · rw [key 104 (by omega) h]; simp [unitF, List.isPrefixOf]
  · rw [key 115 (by omega) h]; simp [unitF, List.isPrefixOf]
  · rw [key 109 (by omega) h, List.drop_of_length_le (by rw [size_data]; omega)]; simp [unitF, List.isPrefixOf]
  · rw [key 109 (by omega) h, drop_byte s (E + 1) h1]
    by_cases hm : s[E + 1].toNat = 115
    · rw [if_pos hm]
      have : s[E + 1] = 115 := by rw [show (115 : UInt8) = UInt8.ofNat 115 from rfl, ← hm]; simp
      rw [this]
      simp [unitF, List.isPrefixOf]
    · rw [if_neg hm]
      have : ¬ (115 : UInt8) = s[E + 1] := by
        intro e
        rw [← e] at hm
        exact hm rfl
      simp [unitF, List.isPrefixOf, this]
  · have e1 : ¬ (100 : UInt8) = c := fun e => h1 (by rw [← e]; rfl)
    have e2 : ¬ (104 : UInt8) = c := fun e => h2 (by rw [← e]; rfl)
    have e3 : ¬ (115 : UInt8) = c := fun e => h3 (by rw [← e]; rfl)
    have e4 : ¬ (109 : UInt8) = c := fun e => h4 (by rw [← e]; rfl)
    simp [unitF, List.isPrefixOf, e1, e2, e3, e4]
/-- the worth of a rank -/
def worthF (r : Nat) : Nat := if r = 0 then 1 else if r = 1 then 1000 else if r = 2 then 60000 else if r = 3 then 3600000 else if r = 4 then 86400000 else lidN
theorem timeL_start (s : ByteArray) {k : Nat} (h : (k = 2 ∧ tPre.isPrefixOf s.data.toList = true) ∨ (k = 5 ∧ timePre.isPrefixOf s.data.toList = true)) : (k < s.size → TimI s k lidN 0 (timeL s.data.toList)) ∧ (s.size = k → timeL s.data.toList = none) ∧ k ≤ s.size := by
  have hk : k ≤ s.size := by
    rcases h with ⟨rfl, h⟩ | ⟨rfl, h⟩
    · exact pre_len h
    · exact pre_len h
  have ht : timePre.isPrefixOf s.data.toList = true → ¬ tPre.isPrefixOf s.data.toList = true := by
    intro h1 h2
    obtain ⟨t, ht⟩ := List.isPrefixOf_iff_prefix.1 h1
    rw [← ht] at h2
    simp [tPre, timePre, List.isPrefixOf] at h2
  have e : timeL s.data.toList = if s.data.toList.drop k = [] then none else timeF (s.size + 1) (s.data.toList.drop k) lidN 0 := by
    unfold timeL
    rw [size_data]
    rcases h with ⟨rfl, h⟩ | ⟨rfl, h⟩
    · rw [if_pos h]
    · rw [if_neg (ht h), if_pos h]
  rw [e]
  refine ⟨fun hl => ?_, fun hl => ?_, hk⟩
  · rw [if_neg]
    · rfl
    · intro e
      have := congrArg List.length e
      rw [List.length_drop, size_data] at this
      simp at this
      omega
  · rw [if_pos]
    exact List.drop_of_length_le (by rw [size_data]; omega)
end Go.Proofs.YtckjnlonijodcaaDoor.Tx
