/-
  No job takes longer than was told, plainly: the worst of all is to be released with all those ahead. Conditions: the tasks are right.
-/
import Derived.Test.YthnpeekeoaiaoaaMet1
import Derived.Test.YthnpeekeoaiaoaaTask5
namespace Go.Proofs.Ythnpeekeoaiaoaa.Task
open Go.RowKit Go.Proofs.Ythnpeekeoaiaoaa.W Go.Proofs.Ythnpeekeoaiaoaa.Ints

/-- in a stretch no more is released than in a stretch of the same length from a release on -/
theorem rel_diff {ts : List TD} (ha : ts.all TD.okB = true) (j : Nat) {n m : Int} (h : n ≤ m) : relF ts j (m - 1) ≤ relF ts j (n - 1) + upF (m - n) (perF ts j) := by
  obtain ⟨_, _, p, _⟩ := cost_pos ha j
  have hu := (up_bd p (show 0 ≤ m - n by omega)).1
  generalize hp : perF ts j = q at p hu ⊢
  unfold relF
  rw [hp]
  split
  · split
    · rename_i h1 h2
      unfold upF
      generalize hx : n - 1 - offF ts j = x
      have e : m - 1 - offF ts j = x + (m - n) := by omega
      rw [e]
      have h3 := Int.emod_add_mul_ediv x q
      have h4 := Int.emod_lt_of_pos x (show 0 < q by omega)
      have h5 : (x + (m - n)) / q ≤ ((m - n + q - 1) + q * (x / q)) / q := Int.ediv_le_ediv (by omega) (by omega)
      rw [Int.add_mul_ediv_left _ _ (by omega)] at h5
      omega
    · rename_i h1 h2
      have h5 : (m - 1 - offF ts j + q * 1) / q ≤ (m - n + q - 1) / q := Int.ediv_le_ediv (by omega) (by omega)
      rw [Int.add_mul_ediv_left _ _ (by omega)] at h5
      unfold upF
      omega
  · split
    · rename_i h1 h2
      have := Int.ediv_nonneg (show 0 ≤ n - 1 - offF ts j by omega) (show 0 ≤ q by omega)
      omega
    · omega
/-- all work of the first i that was released ahead of n is done -/
def doneP (ts : List TD) (i n : Nat) : Prop := ∀ j, j < i → hadF ts n j = relW ts j ((n : Int) - 1)
theorem all_le {ts : List TD} (ha : ts.all TD.okB = true) {i n m : Nat} (hi : i ≤ ts.length) (h : n ≤ m) (hd : doneP ts i n) : allH ts m i ≤ allH ts n i + sumF ((m : Int) - n) (ts.take i) := by
  induction i with
  | zero => simp [allH, sumF]
  | succ i ih =>
    have h1 := ih (by omega) (fun j hj => hd j (by omega))
    obtain ⟨c, _⟩ := cost_pos ha i
    have ht : ts[i]? = some ts[i] := List.getElem?_eq_getElem (by omega)
    rw [need_next _ ht, ← at_cost ht, ← at_per ht]
    have h2 := hd i (by omega)
    have h3 := had_le ha i m
    have h4 := Int.mul_le_mul_of_nonneg_right (rel_diff ha i (show (n : Int) ≤ m by omega)) (show 0 ≤ costF ts i by omega)
    rw [Int.add_mul] at h4
    unfold relW at h2 h3
    simp only [allH]
    omega
/-- the last moment at which those ahead had nothing left; from it on they are busy -/
theorem last_done {ts : List TD} (ha : ts.all TD.okB = true) {i : Nat} (hi : i ≤ ts.length) : ∀ a : Nat, ∃ t0, t0 ≤ a ∧ doneP ts i t0 ∧ ∀ s, t0 ≤ s → s < a → ∃ j, j < i ∧ firstF ts (playF ts s).1 s = some j := by
  intro a
  induction a with
  | zero =>
    refine ⟨0, Nat.le_refl _, fun j _ => ?_, fun s h1 h2 => by omega⟩
    rw [had_zero, relW_neg ha j (by omega)]
  | succ a ih =>
    by_cases h : doneP ts i (a + 1)
    · exact ⟨a + 1, Nat.le_refl _, h, fun s h1 h2 => by omega⟩
    · obtain ⟨t0, h1, h2, h3⟩ := ih
      refine ⟨t0, by omega, h2, fun s g1 g2 => ?_⟩
      by_cases e : s = a
      · subst e
        simp only [doneP, Classical.not_forall] at h
        obtain ⟨j, hj, hne⟩ := h
        have h4 := had_le ha j (s + 1)
        have h5 := had_mono ts j (show s ≤ s + 1 by omega)
        have e : ((s + 1 : Nat) : Int) - 1 = s := by omega
        rw [e] at h4 hne
        obtain ⟨j', hj', hf⟩ := busy (ts := ts) (i := j) (n := s) (by omega) (by omega)
        exact ⟨j', by omega, hf⟩
      · exact h3 s g1 (by omega)
/-- those ahead run, so it does not -/
theorem had_still {ts : List TD} {i n m : Nat} (h : n ≤ m) (hb : ∀ s, n ≤ s → s < m → ∃ j, j < i ∧ firstF ts (playF ts s).1 s = some j) : hadF ts m i = hadF ts n i := by
  induction m with
  | zero =>
    obtain rfl : n = 0 := by omega
    rfl
  | succ m ih =>
    by_cases e : n = m + 1
    · subst e; rfl
    · have h1 := ih (by omega) (fun s h1 h2 => hb s h1 (by omega))
      obtain ⟨j, hj, hf⟩ := hb m (by omega) (by omega)
      rw [had_step, if_neg (by rw [hf]; intro e; injection e with e; omega)]
      omega
theorem rel_at {ts : List TD} (ha : ts.all TD.okB = true) (i k : Nat) {n : Int} (h : offF ts i + k * perF ts i ≤ n) : (k : Int) + 1 ≤ relF ts i n := by
  obtain ⟨_, _, p, _⟩ := cost_pos ha i
  have h0 : 0 ≤ (k : Int) * perF ts i := Int.mul_nonneg (by omega) (by omega)
  unfold relF
  rw [if_pos (by omega)]
  have := (Int.le_ediv_iff_mul_le (show 0 < perF ts i by omega)).2 (show (k : Int) * perF ts i ≤ n - offF ts i by omega)
  omega
theorem had_nn (ts : List TD) (n i : Nat) : 0 ≤ hadF ts n i := ((play_ok ts n).2.2 i).1
/-- one job -/
theorem meet_one {ts : List TD} (ha : ts.all TD.okB = true) {i : Nat} {t : TD} (ht : ts[i]? = some t) {r : Nat} (hr : needF ts t i r ≤ r) {a k : Nat} (hk : offF ts i + k * perF ts i ≤ a) (hd : k * costF ts i ≤ hadF ts a i) : (k + 1) * costF ts i ≤ hadF ts (a + r) i := by
  have hi := (List.getElem?_eq_some_iff.1 ht).1
  obtain ⟨c, _⟩ := cost_pos ha i
  have ec := at_cost ht
  obtain ⟨t0, h1, h2, h3⟩ := last_done ha (Nat.le_of_lt hi) a
  rw [Int.add_mul, Int.one_mul]
  refine Int.le_trans ?_ (had_mono ts i (show t0 + r ≤ a + r by omega))
  refine Int.not_lt.1 fun hlt => ?_
  have hs := had_still h1 h3
  have hsum := all_le ha (Nat.le_of_lt hi) (show t0 ≤ t0 + r by omega) h2
  rw [show ((t0 + r : Nat) : Int) - t0 = r from by omega] at hsum
  unfold needF at hr
  have hbusy : ∀ s, t0 ≤ s → s < t0 + r → ∃ j, j < i + 1 ∧ firstF ts (playF ts s).1 s = some j := by
    intro s g1 g2
    by_cases g3 : s < a
    · obtain ⟨j, hj, hf⟩ := h3 s g1 g3
      exact ⟨j, by omega, hf⟩
    · have hm := had_mono ts i (show s ≤ t0 + r by omega)
      have hrel := Int.mul_le_mul_of_nonneg_right (rel_at ha i k (n := s) (by omega)) (show 0 ≤ costF ts i by omega)
      rw [Int.add_mul, Int.one_mul] at hrel
      obtain ⟨j, hj, hf⟩ := busy (ts := ts) (i := i) (n := s) hi (by unfold relW; omega)
      exact ⟨j, by omega, hf⟩
  have hall := all_busy (show t0 ≤ t0 + r by omega) hbusy
  simp only [allH] at hall
  omega
/-- NO JOB TAKES LONGER THAN WAS TOLD -/
theorem meet {ts : List TD} (ha : ts.all TD.okB = true) {i : Nat} {t : TD} (ht : ts[i]? = some t) {r : Nat} (hr : needF ts t i r ≤ r) (hp : (r : Int) ≤ perF ts i) : ∀ k a : Nat, (a : Int) = offF ts i + k * perF ts i → (k + 1) * costF ts i ≤ hadF ts (a + r) i := by
  obtain ⟨c, _, p, _, o, _⟩ := cost_pos ha i
  intro k
  induction k with
  | zero =>
    intro a h
    refine meet_one ha ht hr (k := 0) (by omega) ?_
    have := had_nn ts a i
    simpa using this
  | succ k ih =>
    intro a h
    rw [Int.natCast_add, Int.add_mul] at h
    have h0 : 0 ≤ (k : Int) * perF ts i := Int.mul_nonneg (by omega) (by omega)
    obtain ⟨b, hb⟩ := Int.eq_ofNat_of_zero_le (show 0 ≤ offF ts i + k * perF ts i by omega)
    have h1 := ih b hb.symm
    have h2 := had_mono ts i (show b + r ≤ a by omega)
    refine meet_one ha ht hr (k := k + 1) ?_ (by
      rw [Int.natCast_add]
      exact Int.le_trans h1 h2)
    rw [Int.natCast_add, Int.add_mul]
    omega

/-- with no offsets the first takes just that long -/
theorem first_exact {ts : List TD} (ha : ts.all TD.okB = true) (h0 : ∀ j, offF ts j = 0) {i : Nat} {t : TD} (ht : ts[i]? = some t) : ∀ s : Nat, 1 ≤ s → costF ts i ≤ hadF ts s i → ∃ x : Nat, 1 ≤ x ∧ x ≤ s ∧ needF ts t i x ≤ x := by
  have hi := (List.getElem?_eq_some_iff.1 ht).1
  obtain ⟨c, _⟩ := cost_pos ha i
  have ec := at_cost ht
  intro s
  induction s with
  | zero => intro h; omega
  | succ s ih =>
    intro _ h
    by_cases h1 : costF ts i ≤ hadF ts s i
    · by_cases hs : s = 0
      · subst hs
        rw [had_zero] at h1
        omega
      · obtain ⟨x, x1, x2, x3⟩ := ih (by omega) h1
        exact ⟨x, x1, by omega, x3⟩
    · have hst := had_step ts s i
      by_cases hf : firstF ts (playF ts s).1 s = some i
      · rw [if_pos hf] at hst
        refine ⟨s + 1, by omega, Nat.le_refl _, ?_⟩
        obtain ⟨_, _, hno⟩ := first_inv hf
        have hdone : ∀ j, j ≤ i → j ≤ ts.length → allH ts (s + 1) j = sumF ((s + 1 : Nat) : Int) (ts.take j) := by
          intro j
          induction j with
          | zero => intro _ _; simp [allH, sumF]
          | succ j ih2 =>
            intro hj hl
            have e1 := ih2 (by omega) (by omega)
            have htj : ts[j]? = some ts[j] := List.getElem?_eq_getElem (by omega)
            rw [need_next _ htj, ← at_cost htj, ← at_per htj]
            have h2 : ¬ hadF ts s j < relW ts j s := of_decide_eq_false (hno j (by omega))
            have h3 := had_le ha j (s + 1)
            rw [show ((s + 1 : Nat) : Int) - 1 = s from by omega] at h3
            have h4 := had_mono ts j (show s ≤ s + 1 by omega)
            have h5 : relF ts j s = upF ((s + 1 : Nat) : Int) (perF ts j) := by
              obtain ⟨_, _, p, _⟩ := cost_pos ha j
              unfold relF upF
              rw [h0 j, if_pos (by omega)]
              have e : ((s + 1 : Nat) : Int) + perF ts j - 1 = ((s : Int) - 0) + perF ts j * 1 := by omega
              rw [e, Int.add_mul_ediv_left _ _ (by omega)]
            have h6 : hadF ts (s + 1) j = upF ((s + 1 : Nat) : Int) (perF ts j) * costF ts j := by
              unfold relW at h2 h3
              rw [← h5]
              omega
            simp only [allH]
            omega
        have e := hdone i (Nat.le_refl _) (by omega)
        have hfast := all_fast ts (i + 1) (show 0 ≤ s + 1 by omega)
        have hz : ∀ j, allH ts 0 j = 0 := fun j => by
          induction j with
          | zero => rfl
          | succ j ih => simp only [allH, ih, had_zero]; rfl
        rw [hz] at hfast
        simp only [allH] at hfast
        unfold needF
        omega
      · rw [if_neg hf] at hst
        omega
end Go.Proofs.Ythnpeekeoaiaoaa.Task
