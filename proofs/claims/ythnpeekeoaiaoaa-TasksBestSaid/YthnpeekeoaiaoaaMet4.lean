/-
  TasksMeet, plainly: what each stretch does to the work and the job at hand; what the last loop asks. Conditions: the tasks are right.
-/
import Derived.Test.YthnpeekeoaiaoaaMet3
import Derived.Test.YthnpeekeoaiaoaaDut1
import Derived.Test.YthnpeekeoaiaoaaTask6
namespace Go.Proofs.Ythnpeekeoaiaoaa.Task
open Go.RowKit Go.Proofs.Ythnpeekeoaiaoaa.W Go.Proofs.Ythnpeekeoaiaoaa.Ints

theorem fault_duties (l : List DU) {most : Nat} (hm : most ≤ 15) (idle : Bool) : faultF (dutiesF l most idle) = (0, 0) := by
  unfold faultF
  rw [if_neg (by rw [duties_len]; omega), bad_none (duties_ok l most idle), if_neg (by omega)]
theorem least_spec {f : Int → Int} {d : Nat} {r : Int} (h : leastF f d = some r) : ∃ m : Nat, r = m ∧ 1 ≤ m ∧ m ≤ d ∧ f m ≤ m ∧ ∀ x : Nat, 1 ≤ x → x < m → (x : Int) < f x := by
  unfold leastF at h
  rw [Option.map_eq_some_iff] at h
  obtain ⟨j, hj, rfl⟩ := h
  rw [List.find?_eq_some_iff_getElem] at hj
  obtain ⟨h1, i, hi, e, h3⟩ := hj
  simp at hi
  simp at e
  subst e
  refine ⟨i + 1, by omega, by omega, by omega, ?_, fun x hx1 hx2 => ?_⟩
  · have := of_decide_eq_true h1
    simpa using this
  · have := h3 (x - 1) (by omega)
    simp at this
    have e : ((x - 1 : Nat) : Int) + 1 = x := by omega
    rw [e] at this
    exact this
/-- what was told -/
theorem told_parts {ts : List TD} (ha : ts.all TD.okB = true) (hs : slowAt ts = none) {i : Nat} {t : TD} (ht : ts[i]? = some t) :
    ∃ r : Nat, (outTo ts ts.length)[i]? = some (r : Int) ∧ 1 ≤ r ∧ (r : Int) ≤ perF ts i ∧ needF ts t i r ≤ r ∧ ∀ x : Nat, 1 ≤ x → x < r → (x : Int) < needF ts t i x := by
  obtain ⟨p1, p2, p3, p4, p5, p6, _⟩ := ok_parts (get_ok ha ht)
  have hi := (List.getElem?_eq_some_iff.1 ht).1
  have e : respAt ts i = leastF (needF ts t i) t.dead.toNat := by simp only [respAt, ht, respF]
  have hsm : (respAt ts i).isSome = true := by
    unfold slowAt at hs
    rw [List.find?_eq_none] at hs
    have := hs i (List.mem_range.2 hi)
    cases hr : respAt ts i with
    | none => simp [hr] at this
    | some _ => rfl
  obtain ⟨r, hr⟩ := Option.isSome_iff_exists.1 hsm
  obtain ⟨m, rfl, m1, m2, m3, m4⟩ := least_spec (e ▸ hr)
  refine ⟨m, ?_, m1, by rw [at_per ht]; omega, m3, m4⟩
  simp [outTo, hi, hr]
/-- what a stretch does to the work and the job at hand -/
theorem ran_fits {ts : List TD} (ha : ts.all TD.okB = true) {x : SD} {i f t r : Nat} {a : TD} (h : Ran ts x i f t) (hta : ts[i]? = some a) (_r1 : 1 ≤ r) (rp : (r : Int) ≤ perF ts i) (hr : needF ts a i r ≤ r) (hmin : ∀ x : Nat, 1 ≤ x → x < r → (x : Int) < needF ts a i x) :
    hadF ts f i % costF ts i + ((t : Int) - f) ≤ costF ts i ∧
    (hadF ts f i % costF ts i + ((t : Int) - f) = costF ts i → hadF ts t i % costF ts i = 0 ∧ hadF ts t i / costF ts i = hadF ts f i / costF ts i + 1 ∧ (t : Int) - (offF ts i + hadF ts f i / costF ts i * perF ts i) ≤ r ∧ ((∀ j, offF ts j = 0) → hadF ts f i / costF ts i = 0 → (t : Int) - (offF ts i + hadF ts f i / costF ts i * perF ts i) = r)) ∧
    (hadF ts f i % costF ts i + ((t : Int) - f) ≠ costF ts i → hadF ts t i % costF ts i = hadF ts f i % costF ts i + ((t : Int) - f) ∧ hadF ts t i / costF ts i = hadF ts f i / costF ts i) := by
  obtain ⟨lt, eq, fwd, had, oth, one, rel⟩ := h
  obtain ⟨c, _, p, _, o, _⟩ := cost_pos ha i
  have hd := Int.emod_add_mul_ediv (hadF ts f i) (costF ts i)
  have hm0 := Int.emod_nonneg (hadF ts f i) (show costF ts i ≠ 0 by omega)
  have hnn := Int.ediv_nonneg (had_nn ts f i) (show 0 ≤ costF ts i by omega)
  rw [Int.add_mul, Int.one_mul, Int.mul_comm] at one
  generalize hD : hadF ts f i / costF ts i = D at *
  generalize hM : hadF ts f i % costF ts i = M at *
  have hsum : hadF ts t i = (M + ((t : Int) - f)) + costF ts i * D := by omega
  have hle : M + ((t : Int) - f) ≤ costF ts i := by omega
  refine ⟨hle, fun e => ?_, fun e => ?_⟩
  · have e2 : hadF ts t i = 0 + costF ts i * (D + 1) := by rw [hsum, e, Int.mul_add, Int.mul_one]; omega
    have hjob : hadF ts t i / costF ts i = D + 1 := by
      rw [e2, Int.add_mul_ediv_left _ _ (by omega)]
      simp
    have hmod : hadF ts t i % costF ts i = 0 := by rw [e2, Int.add_mul_emod_self_left]; simp
    have htook : (t : Int) - (offF ts i + D * perF ts i) ≤ r := by
      refine Int.not_lt.1 fun hlt => ?_
      obtain ⟨k, hk⟩ := Int.eq_ofNat_of_zero_le hnn
      have h0 : 0 ≤ D * perF ts i := Int.mul_nonneg hnn (by omega)
      obtain ⟨b, hb⟩ := Int.eq_ofNat_of_zero_le (show 0 ≤ offF ts i + D * perF ts i by omega)
      have h1 := meet ha hta hr rp k b (by rw [← hb, hk])
      have h2 := had_mono ts i (show b + r ≤ t - 1 by omega)
      have h3 := had_fast ts i (show f ≤ t - 1 by omega)
      rw [← hk, Int.mul_comm] at h1
      omega
    refine ⟨hmod, hjob, htook, fun h0 hD0 => ?_⟩
    obtain ⟨x, x1, x2, x3⟩ := first_exact ha h0 hta t (by omega) (by rw [e2, hD0]; simp)
    have : r ≤ x := by
      refine Nat.not_lt.1 fun hlt => ?_
      have := hmin x x1 hlt
      omega
    have h00 := h0 i
    rw [h00, hD0] at htook ⊢
    omega
  · have hlt : M + ((t : Int) - f) < costF ts i := by omega
    rw [hsum, Int.add_mul_ediv_left _ _ (by omega), Int.add_mul_emod_self_left, Int.ediv_eq_zero_of_lt (by omega) hlt, Int.emod_eq_of_lt (by omega) hlt]
    omega
/-- each job that had to be done is -/
theorem all_done {ts : List TD} (ha : ts.all TD.okB = true) {i r n k : Nat} {a : TD} (hta : ts[i]? = some a) (rp : (r : Int) ≤ perF ts i) (hr : needF ts a i r ≤ r) (h : offF ts i + k * perF ts i + r ≤ n) : (k : Int) < hadF ts n i / costF ts i := by
  obtain ⟨c, _, p, _, o, _⟩ := cost_pos ha i
  have h0 : 0 ≤ (k : Int) * perF ts i := Int.mul_nonneg (by omega) (by omega)
  obtain ⟨b, hb⟩ := Int.eq_ofNat_of_zero_le (show 0 ≤ offF ts i + k * perF ts i by omega)
  have h1 := meet ha hta hr rp k b hb.symm
  have h2 := had_mono ts i (show b + r ≤ n by omega)
  have := (Int.le_ediv_iff_mul_le (show 0 < costF ts i by omega)).2 (Int.le_trans h1 h2)
  omega
end Go.Proofs.Ythnpeekeoaiaoaa.Task
