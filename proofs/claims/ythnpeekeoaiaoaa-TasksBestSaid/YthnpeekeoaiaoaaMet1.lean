/-
  No job takes longer than was told, plainly: what each task has had at each moment. Conditions: the tasks are right.
-/
import Derived.Test.YthnpeekeoaiaoaaPly1
namespace Go.Proofs.Ythnpeekeoaiaoaa.Task
open Go.RowKit Go.Proofs.Ythnpeekeoaiaoaa.W Go.Proofs.Ythnpeekeoaiaoaa.Ints

/-- what task i has had up to n -/
def hadF (ts : List TD) (n i : Nat) : Int := (playF ts n).1.getD i 0
theorem had_zero (ts : List TD) (i : Nat) : hadF ts 0 i = 0 := by
  simp only [hadF, playF, List.getD_eq_getElem?_getD, List.getElem?_replicate]
  split <;> rfl
theorem had_step (ts : List TD) (n i : Nat) : hadF ts (n + 1) i = hadF ts n i + (if firstF ts (playF ts n).1 n = some i then 1 else 0) := by
  obtain ⟨g1, _⟩ := play_ok ts n
  unfold hadF
  show (stepF ts n (playF ts n)).1.getD i 0 = _
  rcases hf : firstF ts (playF ts n).1 n with _ | k
  · rw [step_nothing hf]
    simp
  · rw [step_some hf]
    obtain ⟨hk, _⟩ := first_inv hf
    simp only
    rw [getD_set (by omega)]
    by_cases e : k = i
    · subst e; simp
    · simp [e]
theorem had_mono (ts : List TD) (i : Nat) {n m : Nat} (h : n ≤ m) : hadF ts n i ≤ hadF ts m i := by
  induction m with
  | zero =>
    obtain rfl : n = 0 := by omega
    exact Int.le_refl _
  | succ m ih =>
    by_cases e : n = m + 1
    · subst e; exact Int.le_refl _
    · have h1 := ih (by omega)
      rw [had_step]
      split <;> omega
theorem had_fast (ts : List TD) (i : Nat) {n m : Nat} (h : n ≤ m) : hadF ts m i ≤ hadF ts n i + (m - n : Nat) := by
  induction m with
  | zero =>
    obtain rfl : n = 0 := by omega
    simp
  | succ m ih =>
    by_cases e : n = m + 1
    · subst e; simp
    · have h1 := ih (by omega)
      rw [had_step]
      split <;> omega
/-- work of task i that was released up to n -/
def relW (ts : List TD) (i : Nat) (n : Int) : Int := relF ts i n * costF ts i
theorem rel_mono {ts : List TD} (ha : ts.all TD.okB = true) (i : Nat) {n m : Int} (h : n ≤ m) : relF ts i n ≤ relF ts i m := by
  obtain ⟨_, _, p, _⟩ := cost_pos ha i
  unfold relF
  split
  · rw [if_pos (by omega)]
    have := Int.ediv_le_ediv (show 0 < perF ts i by omega) (show n - offF ts i ≤ m - offF ts i by omega)
    omega
  · split
    · have := Int.ediv_nonneg (show 0 ≤ m - offF ts i by omega) (show 0 ≤ perF ts i by omega)
      omega
    · omega
theorem rel_nn {ts : List TD} (ha : ts.all TD.okB = true) (i : Nat) (n : Int) : 0 ≤ relF ts i n := by
  obtain ⟨_, _, p, _⟩ := cost_pos ha i
  unfold relF
  split
  · have := Int.ediv_nonneg (show 0 ≤ n - offF ts i by omega) (show 0 ≤ perF ts i by omega)
    omega
  · omega
theorem relW_mono {ts : List TD} (ha : ts.all TD.okB = true) (i : Nat) {n m : Int} (h : n ≤ m) : relW ts i n ≤ relW ts i m := by
  obtain ⟨c, _⟩ := cost_pos ha i
  exact Int.mul_le_mul_of_nonneg_right (rel_mono ha i h) (by omega)
theorem relW_nn {ts : List TD} (ha : ts.all TD.okB = true) (i : Nat) (n : Int) : 0 ≤ relW ts i n := by
  obtain ⟨c, _⟩ := cost_pos ha i
  exact Int.mul_nonneg (rel_nn ha i n) (by omega)
theorem relW_neg {ts : List TD} (ha : ts.all TD.okB = true) (i : Nat) {n : Int} (h : n < 0) : relW ts i n = 0 := by
  obtain ⟨_, _, _, _, p, _⟩ := cost_pos ha i
  unfold relW relF
  rw [if_neg (by omega)]
  simp
/-- no more than was released is done -/
theorem had_le {ts : List TD} (ha : ts.all TD.okB = true) (i n : Nat) : hadF ts n i ≤ relW ts i ((n : Int) - 1) := by
  induction n with
  | zero => rw [had_zero]; exact relW_nn ha i _
  | succ n ih =>
    rw [had_step, show ((n + 1 : Nat) : Int) - 1 = n from by omega]
    have h := relW_mono ha i (show (n : Int) - 1 ≤ n by omega)
    split
    · rename_i hf
      obtain ⟨_, h2, _⟩ := first_inv hf
      have : hadF ts n i < relW ts i n := of_decide_eq_true h2
      omega
    · omega
/-- what is ready keeps the processor busy with it, or with what is ahead of it -/
theorem busy {ts : List TD} {i n : Nat} (hi : i < ts.length) (h : hadF ts n i < relW ts i n) : ∃ j, j ≤ i ∧ firstF ts (playF ts n).1 n = some j := by
  have hr : readyB ts (playF ts n).1 n i = true := decide_eq_true h
  rcases hf : firstF ts (playF ts n).1 n with _ | j
  · unfold firstF at hf
    rw [List.find?_eq_none] at hf
    have := hf i (List.mem_range.2 hi)
    rw [hr] at this
    simp at this
  · obtain ⟨_, _, h3⟩ := first_inv hf
    refine ⟨j, ?_, rfl⟩
    rcases Nat.lt_or_ge i j with h | h
    · have := h3 i h
      rw [hr] at this
      cases this
    · exact h
/-- all of the first i together -/
def allH (ts : List TD) (n : Nat) : Nat → Int
  | 0 => 0
  | i + 1 => allH ts n i + hadF ts n i
theorem all_step (ts : List TD) (n : Nat) : ∀ i : Nat, (∃ j, j < i ∧ firstF ts (playF ts n).1 n = some j ∧ allH ts (n + 1) i = allH ts n i + 1) ∨ ((∀ j, j < i → firstF ts (playF ts n).1 n ≠ some j) ∧ allH ts (n + 1) i = allH ts n i)
  | 0 => .inr ⟨fun j h => by omega, rfl⟩
  | i + 1 => by
    have hs := had_step ts n i
    rcases all_step ts n i with ⟨j, hj, hf, e⟩ | ⟨hf, e⟩
    · refine .inl ⟨j, by omega, hf, ?_⟩
      rw [if_neg (by rw [hf]; intro e; injection e with e; omega)] at hs
      simp only [allH]
      omega
    · by_cases hi : firstF ts (playF ts n).1 n = some i
      · refine .inl ⟨i, by omega, hi, ?_⟩
        rw [if_pos hi] at hs
        simp only [allH]
        omega
      · refine .inr ⟨fun j hj => ?_, ?_⟩
        · by_cases e2 : j = i
          · subst e2; exact hi
          · exact hf j (by omega)
        · rw [if_neg hi] at hs
          simp only [allH]
          omega
theorem all_mono (ts : List TD) (i : Nat) {n m : Nat} (h : n ≤ m) : allH ts n i ≤ allH ts m i := by
  induction i with
  | zero => exact Int.le_refl _
  | succ i ih =>
    have := had_mono ts i h
    simp only [allH]
    omega
/-- busy all the while -/
theorem all_busy {ts : List TD} {i n m : Nat} (h : n ≤ m) (hb : ∀ s, n ≤ s → s < m → ∃ j, j < i ∧ firstF ts (playF ts s).1 s = some j) : allH ts m i = allH ts n i + (m - n : Nat) := by
  induction m with
  | zero =>
    obtain rfl : n = 0 := by omega
    simp
  | succ m ih =>
    by_cases e : n = m + 1
    · subst e; simp
    · have h1 := ih (by omega) (fun s h1 h2 => hb s h1 (by omega))
      obtain ⟨j, hj, hf⟩ := hb m (by omega) (by omega)
      rcases all_step ts m i with ⟨_, _, _, e2⟩ | ⟨h2, _⟩
      · omega
      · exact absurd hf (h2 j hj)
theorem all_fast (ts : List TD) (i : Nat) {n m : Nat} (h : n ≤ m) : allH ts m i ≤ allH ts n i + (m - n : Nat) := by
  induction m with
  | zero =>
    obtain rfl : n = 0 := by omega
    simp
  | succ m ih =>
    by_cases e : n = m + 1
    · subst e; simp
    · have h1 := ih (by omega)
      rcases all_step ts m i with ⟨_, _, _, e2⟩ | ⟨_, e2⟩ <;> omega
end Go.Proofs.Ythnpeekeoaiaoaa.Task
