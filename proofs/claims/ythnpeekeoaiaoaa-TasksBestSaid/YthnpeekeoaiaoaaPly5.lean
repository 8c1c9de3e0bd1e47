/-
  The releases, plainly: which comes next, how many have come. No conditions beyond what is said.
-/
import Derived.Test.YthnpeekeoaiaoaaPlyB
namespace Go.Proofs.Ythnpeekeoaiaoaa.Task
open Go.RowKit Go.Proofs.Ythnpeekeoaiaoaa.W Go.Proofs.Ythnpeekeoaiaoaa.Ints

/-- of each of n: how often it has come -/
def cntE (pre : List (Nat × Nat)) (i : Nat) : Nat := (pre.filter fun x => x.2 == i).length
def relR (n : Nat) (pre : List (Nat × Nat)) : List Int := (List.range n).map fun i => ((cntE pre i : Nat) : Int)
theorem relR_len (n : Nat) (pre : List (Nat × Nat)) : (relR n pre).length = n := by simp [relR]
theorem relR_at {n i : Nat} (h : i < n) (pre : List (Nat × Nat)) : (relR n pre)[i]? = some ((cntE pre i : Nat) : Int) := by simp [relR, h]
theorem relR_get {n i : Nat} (h : i < n) (pre : List (Nat × Nat)) : (relR n pre).getD i 0 = ((cntE pre i : Nat) : Int) := by simp [relR, h]
theorem relR_nil (n : Nat) : relR n [] = List.replicate n 0 := by
  apply List.ext_getElem?
  intro i
  by_cases h : i < n
  · rw [relR_at h]; simp [cntE, h]
  · rw [List.getElem?_eq_none (by rw [relR_len]; omega), List.getElem?_eq_none (by simp; omega)]
theorem relR_snoc {n k : Nat} (h : k < n) (pre : List (Nat × Nat)) (a : Nat) : relR n (pre ++ [(a, k)]) = (relR n pre).set k ((relR n pre).getD k 0 + 1) := by
  apply List.ext_getElem?
  intro i
  by_cases hi : i < n
  · rw [relR_at hi]
    by_cases e : k = i
    · subst e
      rw [List.getElem?_set_self (by rw [relR_len]; exact h), relR_get h]
      simp [cntE, List.filter_append]
    · rw [List.getElem?_set_ne e, relR_at hi]
      simp [cntE, List.filter_append, e]
  · rw [List.getElem?_eq_none (by rw [relR_len]; omega), List.getElem?_eq_none (by simp [relR_len]; omega)]
def lastT (pre : List (Nat × Nat)) : Nat := match pre.getLast? with | some x => x.1 | none => 0
theorem lastT_snoc (pre : List (Nat × Nat)) (a k : Nat) : lastT (pre ++ [(a, k)]) = a := by simp [lastT]
/-- when the next job of i is released -/
def nxtF (ts : List TD) (R : List Int) (i : Nat) : Int := offF ts i + R.getD i 0 * perF ts i
inductive ValidE (ts : List TD) (U : Nat) : List (Nat × Nat) → Prop
  | nil : ValidE ts U []
  | snoc (pre : List (Nat × Nat)) (a k : Nat) : ValidE ts U pre → k < ts.length → nxtF ts (relR ts.length pre) k = (a : Int) → a < U → (∀ i, i < ts.length → (a : Int) ≤ nxtF ts (relR ts.length pre) i) → ValidE ts U (pre ++ [(a, k)])
theorem valid_rel {ts : List TD} (ha : ts.all TD.okB = true) {U : Nat} {pre : List (Nat × Nat)} (h : ValidE ts U pre) : Rel ts (relR ts.length pre) (lastT pre) ∧ lastT pre ≤ U := by
  induction h with
  | nil => exact ⟨by rw [relR_nil]; exact rel_start ts ha, Nat.zero_le _⟩
  | snoc pre a k _ hk hat hU hmin ih =>
    rw [lastT_snoc, relR_snoc hk]
    exact ⟨(rel_next ha ih.1 hk hat hmin).2, by omega⟩
theorem valid_next {ts : List TD} (ha : ts.all TD.okB = true) {U : Nat} {pre : List (Nat × Nat)} (h : ValidE ts U pre) {a : Nat} (hmin : ∀ i, i < ts.length → (a : Int) ≤ nxtF ts (relR ts.length pre) i) :
    ∀ i, i < ts.length → ∀ m : Nat, lastT pre ≤ m → m < a → relF ts i m = (relR ts.length pre).getD i 0 := fun i hi m m1 m2 =>
  rel_in ha (valid_rel ha h).1 hi m1 (by have := hmin i hi; unfold nxtF at this; omega)
theorem valid_ge {ts : List TD} (ha : ts.all TD.okB = true) {U : Nat} {pre : List (Nat × Nat)} {a k : Nat} (h : ValidE ts U pre) (hk : k < ts.length) (hat : nxtF ts (relR ts.length pre) k = (a : Int)) (hmin : ∀ i, i < ts.length → (a : Int) ≤ nxtF ts (relR ts.length pre) i) : lastT pre ≤ a :=
  (rel_next ha (valid_rel ha h).1 hk hat hmin).1
/-- the numbers stay small -/
theorem valid_bd {ts : List TD} (ha : ts.all TD.okB = true) {U : Nat} (hU : U ≤ 20000) {pre : List (Nat × Nat)} (h : ValidE ts U pre) {i : Nat} (hi : i < ts.length) : (cntE pre i : Int) ≤ 20001 ∧ 0 ≤ (cntE pre i : Int) * perF ts i ∧ (cntE pre i : Int) * perF ts i ≤ 2000000 := by
  obtain ⟨⟨_, hr⟩, hl⟩ := valid_rel ha h
  obtain ⟨g1, g2, g3⟩ := hr i hi
  rw [relR_get hi] at g1 g2 g3
  obtain ⟨_, _, p1, p2, p3, _⟩ := cost_pos ha i
  generalize perF ts i = p at *
  generalize offF ts i = o at *
  generalize (cntE pre i : Int) = r at *
  have h0 : 0 ≤ r * p := Int.mul_nonneg g1 (by omega)
  rcases g2 with g2 | g2
  · subst g2; omega
  · have h1 : (r - 1) * p = r * p - p := by rw [Int.sub_mul]; omega
    have h2 : r ≤ r * p := by
      have := Int.mul_le_mul_of_nonneg_left (show 1 ≤ p by omega) g1
      omega
    have h3 : r - 1 ≤ (r - 1) * p ∨ r = 0 := by
      rcases Int.lt_or_le 0 r with h | h
      · left
        have := Int.mul_le_mul_of_nonneg_left (show 1 ≤ p by omega) (show 0 ≤ r - 1 by omega)
        omega
      · right; omega
    omega

/-- the first of those that come next, among the first i -/
def scanF (ts : List TD) (R : List Int) (U : Nat) : Nat → Int × Int
  | 0 => (-1, U)
  | i + 1 => if nxtF ts R i < (scanF ts R U i).2 then ((i : Int), nxtF ts R i) else scanF ts R U i
theorem scan_next (ts : List TD) (R : List Int) (U i : Nat) : scanF ts R U (i + 1) = if nxtF ts R i < (scanF ts R U i).2 then ((i : Int), nxtF ts R i) else scanF ts R U i := rfl
theorem scan_is (ts : List TD) (R : List Int) (U : Nat) : ∀ m : Nat, (∀ j, j < m → (scanF ts R U m).2 ≤ nxtF ts R j) ∧ (((scanF ts R U m) = (-1, (U : Int))) ∨ ∃ k : Nat, k < m ∧ (scanF ts R U m) = ((k : Int), nxtF ts R k) ∧ nxtF ts R k < U)
  | 0 => ⟨fun j h => by omega, .inl rfl⟩
  | m + 1 => by
    obtain ⟨h1, h2⟩ := scan_is ts R U m
    rw [scan_next]
    by_cases hc : nxtF ts R m < (scanF ts R U m).2
    · rw [if_pos hc]
      refine ⟨fun j hj => ?_, .inr ⟨m, by omega, rfl, ?_⟩⟩
      · by_cases e : j = m
        · subst e; exact Int.le_refl _
        · have := h1 j (by omega)
          simp only
          omega
      · rcases h2 with e | ⟨k, _, e, hk⟩
        · rw [e] at hc; exact hc
        · rw [e] at hc; simp only at hc; omega
    · rw [if_neg hc]
      refine ⟨fun j hj => ?_, ?_⟩
      · by_cases e : j = m
        · subst e; omega
        · exact h1 j (by omega)
      · rcases h2 with e | ⟨k, hk, e⟩
        · exact .inl e
        · exact .inr ⟨k, by omega, e⟩

/-- what is left to come -/
def sumN (f : Nat → Nat) : Nat → Nat
  | 0 => 0
  | n + 1 => sumN f n + f n
theorem sum_lt {f g : Nat → Nat} {k : Nat} (h : ∀ i, f i ≤ g i) (hk : f k < g k) : ∀ n, (sumN f n ≤ sumN g n) ∧ (k < n → sumN f n < sumN g n)
  | 0 => ⟨Nat.le_refl _, fun h => by omega⟩
  | n + 1 => by
    obtain ⟨h1, h2⟩ := sum_lt h hk n
    have h3 := h n
    refine ⟨by simp only [sumN]; omega, fun hn => ?_⟩
    simp only [sumN]
    by_cases e : k = n
    · subst e; omega
    · have := h2 (by omega); omega
def leftM (ts : List TD) (U : Nat) (R : List Int) : Nat := sumN (fun i => ((U : Int) - nxtF ts R i).toNat) ts.length
theorem left_lt {ts : List TD} (ha : ts.all TD.okB = true) {U k : Nat} {R : List Int} (hl : R.length = ts.length) (hk : k < ts.length) (hU : nxtF ts R k < U) : leftM ts U (R.set k (R.getD k 0 + 1)) < leftM ts U R := by
  obtain ⟨_, _, p1, _⟩ := cost_pos ha k
  have e : nxtF ts (R.set k (R.getD k 0 + 1)) k = nxtF ts R k + perF ts k := by
    unfold nxtF
    rw [getD_set (by omega), if_pos rfl, Int.add_mul]
    omega
  refine (sum_lt (k := k) (fun i => ?_) ?_ _).2 hk
  · by_cases hi : k = i
    · subst hi
      rw [e]
      omega
    · have : nxtF ts (R.set k (R.getD k 0 + 1)) i = nxtF ts R i := by
        unfold nxtF
        rw [getD_set (by omega), if_neg hi]
      rw [this]
      exact Nat.le_refl _
  · rw [e]
    omega
/-- the row of counts, read off the world -/
def readR (g n : Nat) (w : World) : List Int := (List.range n).map fun i => match w.cell? ⟨g, i, none⟩ with | some (.int _ v) => v | _ => 0
theorem read_row {w : World} {base g n c : Nat} {e : TypeId} {R : List Int} (h : w.ownsRow base e 1 (.slice (some ⟨g, 0, none⟩) n c) n (ints R)) : readR g n w = R := by
  have hl : R.length = n := by have := h.1; simpa [ints] using this
  apply List.ext_getElem?
  intro i
  by_cases hi : i < n
  · have hc := h.cellAt i (by omega)
    simp [readR, hi, hc, ints, List.getElem?_eq_getElem (show i < R.length by omega)]
  · rw [List.getElem?_eq_none (by simp [readR]; omega), List.getElem?_eq_none (by omega)]
/-- a release on the board -/
theorem line_rel {ts : List TD} {D : List Int} {pre : List (Nat × Nat)} {a k : Nat} (hk : k < ts.length) {l : LD} (hl : (lineF ts D (relR ts.length pre))[k]? = some l) :
    lineF ts D (relR ts.length (pre ++ [(a, k)])) = (lineF ts D (relR ts.length pre)).set k ⟨l.count + 1, l.job, l.left⟩ := by
  rw [line_set (D := D) (R := relR ts.length pre) (D' := D) (R' := relR ts.length (pre ++ [(a, k)])) (k := k) (fun i hi => ⟨rfl, by rw [relR_snoc hk, getD_set (by rw [relR_len]; exact hk), if_neg (Ne.symm hi)]⟩)]
  rw [line_at hk] at hl
  injection hl with hl
  congr 1
  rw [← hl]
  simp only [lineAt]
  rw [relR_snoc hk, getD_set (by rw [relR_len]; exact hk), if_pos rfl]
  congr 1
  omega
end Go.Proofs.Ythnpeekeoaiaoaa.Task
