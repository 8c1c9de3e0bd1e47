/-
  What the stretches tell, plainly: who ran, from when until when. Conditions: the tasks are right.
-/
import Derived.Test.YthnpeekeoaiaoaaMet2
namespace Go.Proofs.Ythnpeekeoaiaoaa.Task
open Go.RowKit Go.Proofs.Ythnpeekeoaiaoaa.W Go.Proofs.Ythnpeekeoaiaoaa.Ints

/-- what is so of one stretch of task i, from f to t -/
structure Ran (ts : List TD) (x : SD) (i f t : Nat) : Prop where
  lt : i < ts.length
  eq : x = ⟨i, hadF ts f i / costF ts i, f, t⟩
  fwd : f < t
  had : hadF ts t i = hadF ts f i + ((t - f : Nat) : Int)
  oth : ∀ j, j ≠ i → hadF ts t j = hadF ts f j
  one : hadF ts t i ≤ (hadF ts f i / costF ts i + 1) * costF ts i
  rel : offF ts i + hadF ts f i / costF ts i * perF ts i ≤ f
/-- the stretches tell all that ran until n; the last ends at m -/
inductive Runs (ts : List TD) : List SD → Nat → Prop
  | nil {n : Nat} (h : ∀ j, hadF ts n j = 0) : Runs ts [] n
  | snoc {O : List SD} {x : SD} {i f t n : Nat} (h : Runs ts O f) (hx : Ran ts x i f t) (hn : t ≤ n) (hh : ∀ j, hadF ts n j = hadF ts t j) : Runs ts (O ++ [x]) n
theorem runs_wait {ts : List TD} {O : List SD} {n m : Nat} (h : Runs ts O n) (hm : n ≤ m) (he : ∀ j, hadF ts m j = hadF ts n j) : Runs ts O m := by
  cases h with
  | nil h => exact .nil fun j => (he j).trans (h j)
  | snoc h hx hn hh => exact .snoc h hx (by omega) fun j => (he j).trans (hh j)
/-- it is not ready unless what it had is less than what was released -/
theorem ready_rel {ts : List TD} (ha : ts.all TD.okB = true) {i n : Nat} (h : readyB ts (playF ts n).1 n i = true) : offF ts i + hadF ts n i / costF ts i * perF ts i ≤ n := by
  obtain ⟨c, _, p, _, o, _⟩ := cost_pos ha i
  have h1 : hadF ts n i < relF ts i n * costF ts i := of_decide_eq_true h
  have h2 := had_nn ts n i
  have h3 : hadF ts n i / costF ts i < relF ts i n := Int.ediv_lt_of_lt_mul (by omega) h1
  have h4 := Int.ediv_nonneg h2 (show 0 ≤ costF ts i by omega)
  unfold relF at h3
  split at h3
  · have h5 : hadF ts n i / costF ts i ≤ ((n : Int) - offF ts i) / perF ts i := by omega
    have := (Int.le_ediv_iff_mul_le (show 0 < perF ts i by omega)).1 h5
    omega
  · omega
theorem runs {ts : List TD} (ha : ts.all TD.okB = true) : ∀ n : Nat, Runs ts (playF ts n).2 n
  | 0 => .nil fun j => had_zero ts j
  | n + 1 => by
    have ih := runs ha n
    have hst := had_step ts n
    show Runs ts (stepF ts n (playF ts n)).2 (n + 1)
    rcases hf : firstF ts (playF ts n).1 n with _ | k
    · rw [step_nothing hf]
      refine runs_wait ih (by omega) fun j => ?_
      rw [hst, hf]
      simp
    · rw [step_some hf]
      obtain ⟨hk, hr, _⟩ := first_inv hf
      obtain ⟨c, _, p, _⟩ := cost_pos ha k
      have hrel := ready_rel ha hr
      have hk1 : hadF ts (n + 1) k = hadF ts n k + 1 := by rw [hst, hf]; simp
      have hko : ∀ j, j ≠ k → hadF ts (n + 1) j = hadF ts n j := fun j hj => by
        rw [hst, hf, if_neg (by intro e; injection e with e; omega)]
        omega
      have hone : hadF ts n k + 1 ≤ (hadF ts n k / costF ts k + 1) * costF ts k := by
        have := Int.lt_ediv_add_one_mul_self (hadF ts n k) (show 0 < costF ts k by omega)
        omega
      show Runs ts (addS (playF ts n).2 k (hadF ts n k / costF ts k) n ((n + 1 : Nat) : Int)) (n + 1)
      have hnew : Ran ts ⟨k, hadF ts n k / costF ts k, n, ((n + 1 : Nat) : Int)⟩ k n (n + 1) :=
        ⟨hk, rfl, by omega, by rw [hk1]; omega, hko, by rw [hk1]; exact hone, hrel⟩
      generalize ho : (playF ts n).2 = O at ih
      cases ih with
      | nil h => exact .snoc (.nil h) hnew (Nat.le_refl _) fun _ => rfl
      | @snoc O x i f t _ h hx hn hh =>
        obtain ⟨x1, rfl, x3, x4, x5, x6, x7⟩ := hx
        by_cases e : (t : Int) = n ∧ (i : Int) = k ∧ hadF ts f i / costF ts i = hadF ts n k / costF ts k
        · obtain ⟨e1, e2, e3⟩ := e
          obtain rfl : t = n := by omega
          obtain rfl : i = k := by omega
          rw [← e3, add_yes]
          refine .snoc h (i := i) (f := f) (t := t + 1) ⟨x1, rfl, by omega, by omega, fun j hj => by rw [hko j hj, x5 j hj], ?_, x7⟩ (Nat.le_refl _) fun _ => rfl
          rw [e3]
          omega
        · rw [add_no _ e]
          exact .snoc (.snoc h ⟨x1, rfl, x3, x4, x5, x6, x7⟩ hn hh) hnew (Nat.le_refl _) fun _ => rfl
/-- those ahead of one tell all that ran until it began -/
theorem runs_at {ts : List TD} {O : List SD} {n : Nat} (h : Runs ts O n) : ∀ k x, O[k]? = some x → ∃ i f t, Runs ts (O.take k) f ∧ Ran ts x i f t ∧ t ≤ n ∧ Runs ts (O.take (k + 1)) t := by
  induction h with
  | nil h => intro k x hx; simp at hx
  | @snoc O y i f t n h hy hn hh ih =>
    intro k x hx
    by_cases hk : k < O.length
    · rw [List.getElem?_append_left hk] at hx
      obtain ⟨i', f', t', g1, g2, g3, g4⟩ := ih k x hx
      have := hy.fwd
      refine ⟨i', f', t', ?_, g2, by omega, ?_⟩
      · rwa [List.take_append_of_le_length (by omega)]
      · rwa [List.take_append_of_le_length (by omega)]
    · have hl := (List.getElem?_eq_some_iff.1 hx).1
      simp at hl
      obtain rfl : k = O.length := by omega
      simp at hx
      subst hx
      refine ⟨i, f, t, by simpa using h, hy, hn, ?_⟩
      rw [List.take_of_length_le (by simp)]
      exact .snoc h hy (Nat.le_refl _) fun _ => rfl
/-- the end of the last stretch, and what each has had by then -/
theorem runs_end {ts : List TD} {O : List SD} {n : Nat} (h : Runs ts O n) : ∃ m, m ≤ n ∧ ((O = [] ∧ m = 0) ∨ ∃ P i j f, O = P ++ [⟨i, j, f, (m : Int)⟩]) ∧ ∀ j, hadF ts n j = hadF ts m j := by
  cases h with
  | nil h => exact ⟨0, Nat.zero_le _, .inl ⟨rfl, rfl⟩, fun j => by rw [h, had_zero]⟩
  | snoc h hx hn hh =>
    obtain ⟨_, rfl, _⟩ := hx
    exact ⟨_, hn, .inr ⟨_, _, _, _, rfl⟩, hh⟩
end Go.Proofs.Ythnpeekeoaiaoaa.Task
