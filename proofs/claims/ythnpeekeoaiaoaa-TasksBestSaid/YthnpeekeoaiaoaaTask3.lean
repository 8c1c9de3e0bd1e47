/-
  How long jobs take, plainly: what a moment asks for, the least moment that asks for no more. Conditions: the tasks are right.
-/
import Derived.Test.YthnpeekeoaiaoaaTask2
namespace Go.Proofs.Ythnpeekeoaiaoaa.Task
open Go.RowKit Go.Proofs.Ythnpeekeoaiaoaa.W Go.Proofs.Ythnpeekeoaiaoaa.Ints

def upF (r p : Int) : Int := (r + p - 1) / p
def sumF (r : Int) (l : List TD) : Int := l.foldl (fun n a => n + upF r a.per * a.cost) 0
/-- what r asks for: of task i -/
def needF (ts : List TD) (t : TD) (i : Nat) (r : Int) : Int := t.cost + sumF r (ts.take i)
theorem sum_snoc (r : Int) (l : List TD) (a : TD) : sumF r (l ++ [a]) = sumF r l + upF r a.per * a.cost := by simp [sumF]
theorem need_next {ts : List TD} {k : Nat} {a : TD} (r : Int) (h : ts[k]? = some a) : sumF r (ts.take (k + 1)) = sumF r (ts.take k) + upF r a.per * a.cost := by
  have hk := (List.getElem?_eq_some_iff.1 h).1
  rw [List.take_succ_eq_append_getElem hk, sum_snoc]
  rw [List.getElem?_eq_getElem hk] at h
  injection h with h
  rw [h]
theorem up_mono {r s p : Int} (hp : 1 ≤ p) (h : r ≤ s) : upF r p ≤ upF s p := Int.ediv_le_ediv (by omega) (by omega)
theorem up_eq {r p : Int} (hp : 1 ≤ p) (_hr : 0 ≤ r) : upF r p = if 0 < r % p then r / p + 1 else r / p := by
  have h1 := Int.mul_ediv_add_emod r p
  have h2 := Int.emod_nonneg r (show p ≠ 0 by omega)
  have h3 := Int.emod_lt_of_pos r (show 0 < p by omega)
  unfold upF
  split
  · rw [show r + p - 1 = (r % p - 1) + p * (r / p + 1) from by rw [Int.mul_add]; omega, Int.add_mul_ediv_left _ _ (by omega), Int.ediv_eq_zero_of_lt (by omega) (by omega)]
    omega
  · rw [show r + p - 1 = (p - 1) + p * (r / p) from by omega, Int.add_mul_ediv_left _ _ (by omega), Int.ediv_eq_zero_of_lt (by omega) (by omega)]
    omega
theorem up_bd {r p : Int} (hp : 1 ≤ p) (hr : 0 ≤ r) : 0 ≤ upF r p ∧ upF r p ≤ r := by
  unfold upF
  refine ⟨Int.ediv_nonneg (by omega) (by omega), ?_⟩
  have : r + p - 1 ≤ r * p ∨ r = 0 := by
    rcases Int.lt_or_le 0 r with h | h
    · left
      have h1 : (r - 1) * (p - 1) ≥ 0 := Int.mul_nonneg (by omega) (by omega)
      rw [Int.sub_mul, Int.mul_sub, Int.mul_sub] at h1
      omega
    · right; omega
  rcases this with h | h
  · have := Int.ediv_le_ediv (show 0 < p by omega) h
    rwa [Int.mul_ediv_cancel _ (by omega)] at this
  · subst h
    rw [Int.ediv_eq_zero_of_lt (by omega) (by omega)]
    omega
theorem snoc_ind {α : Type} {P : List α → Prop} (h0 : P []) (h1 : ∀ l a, P l → P (l ++ [a])) (l : List α) : P l := by
  rw [← List.reverse_reverse l]
  induction l.reverse with
  | nil => exact h0
  | cons a l ih =>
    rw [List.reverse_cons]
    exact h1 _ _ ih
theorem sum_mono {r s : Int} (h : r ≤ s) (l : List TD) : l.all TD.okB = true → sumF r l ≤ sumF s l := by
  refine snoc_ind (P := fun l => l.all TD.okB = true → sumF r l ≤ sumF s l) ?_ ?_ l
  · simp [sumF]
  · intro l a ih hl
    rw [List.all_append, Bool.and_eq_true] at hl
    have ha : a.okB = true := by simpa using hl.2
    obtain ⟨p1, p2, p3, p4, _⟩ := ok_parts ha
    rw [sum_snoc, sum_snoc]
    have h1 := ih hl.1
    have h2 : upF r a.per * a.cost ≤ upF s a.per * a.cost := Int.mul_le_mul_of_nonneg_right (up_mono p1 h) (by omega)
    omega
theorem sum_bd {r : Int} (hr : 0 ≤ r) (hr' : r ≤ 1000000) (l : List TD) : l.all TD.okB = true → 0 ≤ sumF r l ∧ sumF r l ≤ l.length * 1000000000000 := by
  refine snoc_ind (P := fun l => l.all TD.okB = true → 0 ≤ sumF r l ∧ sumF r l ≤ l.length * 1000000000000) ?_ ?_ l
  · simp [sumF]
  · intro l a ih hl
    rw [List.all_append, Bool.and_eq_true] at hl
    have ha : a.okB = true := by simpa using hl.2
    obtain ⟨p1, p2, p3, p4, _⟩ := ok_parts ha
    have h1 := ih hl.1
    have h2 := up_bd p1 hr
    have h3 : upF r a.per * a.cost ≤ 1000000 * 1000000 := Int.mul_le_mul (by omega) (by omega) (by omega) (by omega)
    have h4 : 0 ≤ upF r a.per * a.cost := Int.mul_nonneg h2.1 (by omega)
    rw [sum_snoc, List.length_append]
    simp only [List.length_cons, List.length_nil]
    omega
theorem all_take_ok {ts : List TD} (k : Nat) (h : ts.all TD.okB = true) : (ts.take k).all TD.okB = true := by
  rw [List.all_eq_true] at h ⊢
  exact fun x hx => h x (List.mem_of_mem_take hx)

/-- the least moment up to a bound that asks for no more than itself -/
def leastF (f : Int → Int) (d : Nat) : Option Int := ((List.range d).find? fun j : Nat => decide (f ((j : Int) + 1) ≤ (j : Int) + 1)).map fun j : Nat => ((j : Int) + 1)
theorem least_some {f : Int → Int} {d : Nat} {r : Int} (h1 : 1 ≤ r) (h2 : r ≤ d) (h3 : f r ≤ r) (h4 : ∀ x, 1 ≤ x → x < r → x < f x) : leastF f d = some r := by
  obtain ⟨m, hm⟩ := Int.eq_ofNat_of_zero_le (show 0 ≤ r - 1 by omega)
  obtain rfl : r = (m : Int) + 1 := by omega
  have : (List.range d).find? (fun j : Nat => decide (f ((j : Int) + 1) ≤ (j : Int) + 1)) = some m := by
    rw [List.find?_eq_some_iff_getElem]
    refine ⟨by simpa using h3, m, by simp; omega, by simp, fun j hj => ?_⟩
    simp
    exact h4 _ (by omega) (by omega)
  simp [leastF, this]
theorem least_none {f : Int → Int} {d : Nat} (h : ∀ x : Int, 1 ≤ x → x ≤ (d : Int) → x < f x) : leastF f d = none := by
  have : (List.range d).find? (fun j : Nat => decide (f ((j : Int) + 1) ≤ (j : Int) + 1)) = none := by
    rw [List.find?_eq_none]
    intro j hj
    have := List.mem_range.1 hj
    have h' := h ((j : Int) + 1) (by omega) (by omega)
    simpa using h'
  simp [leastF, this]
/-- a step: no moment below what r asks for will do -/
theorem step_none {f : Int → Int} {r : Int} (hm : ∀ x y, x ≤ y → f x ≤ f y) (h : ∀ x, 1 ≤ x → x < r → x < f x) : ∀ x, 1 ≤ x → x < f r → x < f x := by
  intro x h1 h2
  rcases Int.lt_or_le x r with h3 | h3
  · exact h x h1 h3
  · have := hm r x h3
    omega
end Go.Proofs.Ythnpeekeoaiaoaa.Task
