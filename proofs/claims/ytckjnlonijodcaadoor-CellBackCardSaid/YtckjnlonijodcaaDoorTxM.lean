/-
  What is shown of a value is read as that value: in plain words. No conditions.
-/
import Derived.Test.YtckjnlonijodcaaDoorTxL
namespace Go.Proofs.YtckjnlonijodcaaDoor.Tx
open Go.RowKit Go.Proofs.YtckjnlonijodcaaDoor.W Go.Proofs.YtckjnlonijodcaaDoor.Num Go.Proofs.YtckjnlonijodcaaDoor.Cell

theorem head_part {q : Nat} {u r : List UInt8} (h : DigHead r) : DigHead (partF q u ++ r) := by
  unfold partF
  split
  · intro c t e
    cases hd : Go.Lib.decDigits q with
    | nil => exact (dec_ne q hd).elim
    | cons d ds =>
      rw [hd] at e
      simp only [List.cons_append, List.cons.injEq] at e
      have := dec_bytes q d (by rw [hd]; simp)
      rw [← e.1]
      exact this
  · simpa using h
theorem tf_opt {q w last S : Nat} {u r : List UInt8} {c : UInt8} {u' : List UInt8} (hu : u = c :: u') (hc : isD 10 c = false) (hx : unitF (u ++ r) = (w, u.length)) (hw : w ≠ 0) (hl : w < last) : ∃ last', w ≤ last' ∧ TF (partF q u ++ r) last S = TF r last' (S + q * w) := by
  unfold partF
  by_cases hq : 0 < q
  · rw [if_pos hq, List.append_assoc]
    exact ⟨w, Nat.le_refl _, tf_part hu hc hx hw hl⟩
  · rw [if_neg hq]
    obtain rfl : q = 0 := by omega
    exact ⟨last, by omega, by simp⟩
theorem tf_nil (last S : Nat) : TF [] last S = some S := by simp [TF, timeF]
theorem unit_m {r : List UInt8} (h : DigHead r) : unitF ([109] ++ r) = (60000, 1) := by
  cases r with
  | nil => simp [unitF, List.isPrefixOf]
  | cons c t =>
    have := h c t rfl
    have hne : ¬ (115 : UInt8) = c := by
      intro e
      rw [← e] at this
      simp at this
    simp [unitF, List.isPrefixOf, hne]
theorem body_read {n : Nat} (_h0 : ¬ n = 0) : TF (partF (n / 86400000) [100] ++ (partF (n / 3600000 % 24) [104] ++ (partF (n / 60000 % 60) [109] ++ (partF (n / 1000 % 60) [115] ++ partF (n % 1000) [109, 115])))) lidN 0 = some n := by
  have h5 : DigHead (partF (n % 1000) [109, 115]) := by
    have := head_part (q := n % 1000) (u := [109, 115]) (r := []) (fun c r e => by cases e)
    rwa [List.append_nil] at this
  have h4 : DigHead (partF (n / 1000 % 60) [115] ++ partF (n % 1000) [109, 115]) := head_part h5
  obtain ⟨a1, b1, e1⟩ := tf_opt (q := n / 86400000) (w := 86400000) (last := lidN) (S := 0) (u := [100]) (r := partF (n / 3600000 % 24) [104] ++ (partF (n / 60000 % 60) [109] ++ (partF (n / 1000 % 60) [115] ++ partF (n % 1000) [109, 115]))) rfl (by decide) (by simp [unitF, List.isPrefixOf]) (by omega) (by unfold lidN; omega)
  obtain ⟨a2, b2, e2⟩ := tf_opt (q := n / 3600000 % 24) (w := 3600000) (last := a1) (S := 0 + n / 86400000 * 86400000) (u := [104]) (r := partF (n / 60000 % 60) [109] ++ (partF (n / 1000 % 60) [115] ++ partF (n % 1000) [109, 115])) rfl (by decide) (by simp [unitF, List.isPrefixOf]) (by omega) (by omega)
  obtain ⟨a3, b3, e3⟩ := tf_opt (q := n / 60000 % 60) (w := 60000) (last := a2) (S := 0 + n / 86400000 * 86400000 + n / 3600000 % 24 * 3600000) (u := [109]) (r := partF (n / 1000 % 60) [115] ++ partF (n % 1000) [109, 115]) rfl (by decide) (unit_m h4) (by omega) (by omega)
  obtain ⟨a4, b4, e4⟩ := tf_opt (q := n / 1000 % 60) (w := 1000) (last := a3) (S := 0 + n / 86400000 * 86400000 + n / 3600000 % 24 * 3600000 + n / 60000 % 60 * 60000) (u := [115]) (r := partF (n % 1000) [109, 115]) rfl (by decide) (by simp [unitF, List.isPrefixOf]) (by omega) (by omega)
  obtain ⟨a5, b5, e5⟩ := tf_opt (q := n % 1000) (w := 1) (last := a4) (S := 0 + n / 86400000 * 86400000 + n / 3600000 % 24 * 3600000 + n / 60000 % 60 * 60000 + n / 1000 % 60 * 1000) (u := [109, 115]) (r := []) rfl (by decide) (by simp [unitF, List.isPrefixOf]) (by omega) (by omega)
  rw [List.append_nil] at e5
  rw [e1, e2, e3, e4, e5, tf_nil]
  congr 1
  omega
theorem low_part {q : Nat} {u : List UInt8} (hu : u.map Go.Lib.lowerB = u) : (partF q u).map Go.Lib.lowerB = partF q u := by
  unfold partF
  split
  · rw [List.map_append, low_dec, hu]
  · rfl
theorem part_len10 {q : Nat} {u : List UInt8} (hq : q < 10 ^ 5) (hu : u.length ≤ 2) : (partF q u).length ≤ 7 := by
  unfold partF
  split
  · rw [List.length_append]
    have := dec_len10 4 q hq
    omega
  · simp
theorem time_low (n : Nat) : (timeS n).map Go.Lib.lowerB = [116, 35] ++ (if n = 0 then [48, 109, 115] else partF (n / 86400000) [100] ++ (partF (n / 3600000 % 24) [104] ++ (partF (n / 60000 % 60) [109] ++ (partF (n / 1000 % 60) [115] ++ partF (n % 1000) [109, 115])))) := by
  unfold timeS
  rw [List.map_append]
  congr 1
  split
  · decide
  · simp only [List.map_append]
    rw [low_part (by decide), low_part (by decide), low_part (by decide), low_part (by decide), low_part (by decide)]
theorem timeL_back (n : Nat) : timeL ((timeS n).map Go.Lib.lowerB) = some n := by
  rw [time_low]
  by_cases h : n = 0
  · subst h; decide
  · rw [if_neg h]
    have hb := body_read h
    unfold TF at hb
    generalize (partF (n / 86400000) [100] ++ (partF (n / 3600000 % 24) [104] ++ (partF (n / 60000 % 60) [109] ++ (partF (n / 1000 % 60) [115] ++ partF (n % 1000) [109, 115])))) = B at hb ⊢
    have hB : B ≠ [] := by
      intro e
      rw [e] at hb
      simp [timeF] at hb
      exact h hb.symm
    unfold timeL
    rw [if_pos (by simp [tPre, List.isPrefixOf])]
    have hd : ([116, 35] ++ B : List UInt8).drop 2 = B := rfl
    rw [hd, if_neg hB, ← hb]
    exact time_more _ _ _ _ _ (by simp; omega) (by omega)
theorem back_all {k n : Int} (h : fitsF k n = true) : readF k (showF k n) = (n, 0) := by
  have fin : ∀ {v : Option Int}, (widthF k).1 ≠ 0 → (showF k n).length ≤ 40 → valF k ((showF k n).map Go.Lib.lowerB) = some n → readF k (showF k n) = (n, 0) := fun {v} h1 h2 h3 => by
    unfold readF
    rw [if_neg h1, if_neg (by omega), h3, end_yes h]
  have int : k = 2 ∨ k = 3 → readF k (showF k n) = (n, 0) := by
    intro hk
    have hs : showF k n = Go.Lib.itoa n := by
      unfold showF
      rcases hk with rfl | rfl <;> simp [h]
    have hb : -2147483648 ≤ n ∧ n ≤ 2147483647 := by
      rcases hk with rfl | rfl <;> simp [fitsF] at h <;> omega
    have hk1 : k ≠ 1 ∧ k ≠ 5 ∧ k ≠ 4 := by omega
    refine fin (v := none) (by rcases hk with rfl | rfl <;> decide) ?_ ?_
    · rw [hs]
      by_cases hn : n < 0
      · obtain ⟨u, rfl⟩ : ∃ u : Nat, n = -(u : Int) := ⟨n.natAbs, by omega⟩
        rw [itoa_neg (by omega), List.length_cons]
        have := dec_len10 9 u (by omega)
        omega
      · obtain ⟨u, rfl⟩ : ∃ u : Nat, n = (u : Int) := ⟨n.toNat, by omega⟩
        rw [itoa_nat]
        have := dec_len10 9 u (by omega)
        omega
    · rw [hs]
      by_cases hn : n < 0
      · obtain ⟨u, rfl⟩ : ∃ u : Nat, n = -(u : Int) := ⟨n.natAbs, by omega⟩
        rw [itoa_neg (by omega), List.map_cons, low_dec, show Go.Lib.lowerB 45 = 45 from by decide]
        exact val_neg (o := some u) hk1.1 hk1.2.1 hk1.2.2 (num_none (c := 45) List.mem_cons_self (.inr rfl)) (by simp [List.isPrefixOf]) (by simpa using dec_num u)
      · obtain ⟨u, rfl⟩ : ∃ u : Nat, n = (u : Int) := ⟨n.toNat, by omega⟩
        rw [itoa_nat, low_dec]
        unfold valF
        rw [if_neg hk1.1, if_neg hk1.2.1, num_dec]
  rcases kinds k with rfl | rfl | rfl | rfl | rfl | ⟨h1, h2, h3, h4, h5⟩
  · have hn : n = 0 ∨ n = 1 := by simp [fitsF] at h; omega
    rcases hn with rfl | rfl <;> decide
  · exact int (.inl rfl)
  · exact int (.inr rfl)
  · obtain ⟨m, rfl⟩ : ∃ m : Nat, n = (m : Int) := ⟨n.toNat, by simp [fitsF] at h; omega⟩
    have hm : m ≤ 65535 := by simp [fitsF] at h; omega
    have hs : showF 4 (m : Int) = [49, 54, 35] ++ hexU m := by unfold showF; simp [h]
    refine fin (v := none) (by decide) ?_ ?_
    · rw [hs, List.length_append]
      have := hex_len hm
      simp
      omega
    · rw [hs, List.map_append, hex_low, show ([49, 54, 35] : List UInt8).map Go.Lib.lowerB = [49, 54, 35] from by decide]
      unfold valF
      rw [if_neg (by decide), if_neg (by decide)]
      unfold numF
      have hd : ([49, 54, 35] ++ lexU m : List UInt8).drop 3 = lexU m := rfl
      rw [if_pos (by simp [pre16, List.isPrefixOf]), hd, lex_num]
  · obtain ⟨m, rfl⟩ : ∃ m : Nat, n = (m : Int) := ⟨n.toNat, by simp [fitsF] at h; omega⟩
    have hm : m ≤ 4294967295 := by simp [fitsF] at h; omega
    have hs : showF 5 (m : Int) = timeS m := by unfold showF; simp [h]
    refine fin (v := none) (by decide) ?_ ?_
    · rw [hs]
      unfold timeS
      split
      · simp
      · have p1 := part_len10 (q := m / 86400000) (u := [100]) (by omega) (by simp)
        have p2 := part_len10 (q := m / 3600000 % 24) (u := [104]) (by omega) (by simp)
        have p3 := part_len10 (q := m / 60000 % 60) (u := [109]) (by omega) (by simp)
        have p4 := part_len10 (q := m / 1000 % 60) (u := [115]) (by omega) (by simp)
        have p5 := part_len10 (q := m % 1000) (u := [109, 115]) (by omega) (by simp)
        simp only [List.length_append, List.length_cons, List.length_nil]
        omega
    · rw [hs]
      unfold valF
      rw [if_neg (by decide), if_pos rfl, timeL_back]
      rfl
  · exfalso
    simp only [beq_eq_false_iff_ne, ne_eq] at h1 h2 h3 h4 h5
    simp [fitsF, h1, h2, h3, h4, h5] at h
end Go.Proofs.YtckjnlonijodcaaDoor.Tx
