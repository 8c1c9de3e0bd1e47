/-
  TasksMeet, plainly: the state of the work and the jobs between any two stretches. Conditions: the tasks are right, each has a time that was told.
-/
import Derived.Test.YthnpeekeoaiaoaaMet4
namespace Go.Proofs.Ythnpeekeoaiaoaa.Task
open Go.RowKit Go.Proofs.Ythnpeekeoaiaoaa.W Go.Proofs.Ythnpeekeoaiaoaa.Ints

/-- one stretch: what is asked of it, and what it makes of the work and the jobs -/
structure Turn (ts : List TD) (told : List Int) (idle : Bool) (x : SD) (W J W' J' : List Int) (T : Int) (i : Nat) (a : TD) (r v : Int) : Prop where
  ta : ts[i]? = some a
  task : x.task = i
  tol : told[i]? = some r
  t0 : 0 ≤ T
  ge : T ≤ x.frm
  fwd : x.frm < x.til
  hi : x.til ≤ 1200
  job : J[i]? = some x.job
  wk : W[i]? = some v
  j0 : 0 ≤ x.job
  j1 : x.job ≤ 1200
  off : 0 ≤ a.off
  rl0 : 0 ≤ x.job * a.per
  rel : a.off + x.job * a.per ≤ x.frm
  v0 : 0 ≤ v
  fit : v + (x.til - x.frm) ≤ a.cost
  cst : a.cost ≤ 1000000
  full : v + (x.til - x.frm) = a.cost → x.til - (a.off + x.job * a.per) ≤ r ∧ (idle = true → x.job = 0 → x.til - (a.off + x.job * a.per) = r) ∧ W' = W.set i 0 ∧ J' = J.set i (x.job + 1)
  part : v + (x.til - x.frm) ≠ a.cost → W' = W.set i (v + (x.til - x.frm)) ∧ J' = J
/-- all of it -/
structure Meets (ts : List TD) (told : List Int) (idle : Bool) (X : List SD) (W J : Nat → List Int) (T : Nat → Int) : Prop where
  w0 : W 0 = List.replicate ts.length 0
  j0 : J 0 = List.replicate ts.length 0
  t0 : T 0 = 0
  turn : ∀ k x, X[k]? = some x → T (k + 1) = x.til ∧ ∃ i a r v, Turn ts told idle x (W k) (J k) (W (k + 1)) (J (k + 1)) (T k) i a r v
  last : ∀ (i : Nat) (a : TD) (r : Int), ts[i]? = some a → told[i]? = some r → (0 ≤ r ∧ r ≤ 1000000) ∧ (1 ≤ a.per ∧ a.per ≤ 1000000 ∧ 0 ≤ a.off ∧ a.off ≤ 1000000) ∧ ∃ q, (J X.length)[i]? = some q ∧ 0 ≤ q ∧ q ≤ 1200 ∧ ∀ k : Nat, a.off + k * a.per + r ≤ 1200 → (k : Int) < q

/-- when the first k stretches are over -/
def endT (X : List SD) (k : Nat) : Int := match X[k - 1]? with | some x => if k = 0 then 0 else x.til | none => 0
def workL (ts : List TD) (n : Nat) : List Int := (List.range ts.length).map fun j => hadF ts n j % costF ts j
def jobL (ts : List TD) (n : Nat) : List Int := (List.range ts.length).map fun j => hadF ts n j / costF ts j
theorem end_zero (X : List SD) : endT X 0 = 0 := by
  unfold endT
  split <;> rfl
theorem end_succ {X : List SD} {k : Nat} {x : SD} (h : X[k]? = some x) : endT X (k + 1) = x.til := by
  unfold endT
  rw [Nat.add_sub_cancel, h]
  simp
theorem workL_at {ts : List TD} {n i : Nat} (h : i < ts.length) : (workL ts n)[i]? = some (hadF ts n i % costF ts i) := by simp [workL, h]
theorem jobL_at {ts : List TD} {n i : Nat} (h : i < ts.length) : (jobL ts n)[i]? = some (hadF ts n i / costF ts i) := by simp [jobL, h]
theorem listF_set {N : Nat} {f g : Nat → Int} {i : Nat} {v : Int} (hi : g i = v) (ho : ∀ j, j ≠ i → g j = f j) : (List.range N).map g = ((List.range N).map f).set i v := by
  refine List.ext_getElem? fun j => ?_
  rw [List.getElem?_set]
  by_cases e : i = j
  · subst e
    by_cases h : i < N
    · simp [h, hi]
    · simp [h]
  · rw [if_neg e]
    by_cases h : j < N
    · simp [h, ho j (fun h' => e h'.symm)]
    · simp [h]
theorem listF_same {N : Nat} {f g : Nat → Int} (h : ∀ j, g j = f j) : (List.range N).map g = (List.range N).map f := by
  congr 1
  exact funext h
theorem take_end {ts : List TD} {O : List SD} {n : Nat} (h : Runs ts O n) : ∃ m : Nat, endT O O.length = m ∧ m ≤ n ∧ ∀ j, hadF ts n j = hadF ts m j := by
  obtain ⟨m, hm, hc, hj⟩ := runs_end h
  refine ⟨m, ?_, hm, hj⟩
  rcases hc with ⟨rfl, rfl⟩ | ⟨P, i, j, f, rfl⟩
  · rfl
  · rw [List.length_append]
    exact end_succ (X := P ++ [⟨i, j, f, (m : Int)⟩]) (k := P.length) (x := ⟨i, j, f, (m : Int)⟩) (by simp)
theorem end_take {X : List SD} {k : Nat} (h : k ≤ X.length) : endT (X.take k) (X.take k).length = endT X k := by
  rw [List.length_take, Nat.min_eq_left h]
  rcases k with _ | k
  · rw [end_zero, end_zero]
  · have hx : X[k]? = some X[k] := List.getElem?_eq_getElem (by omega)
    rw [end_succ hx, end_succ (x := X[k])]
    rw [List.getElem?_take, if_pos (by omega), hx]
theorem meets {ts : List TD} (ha : ts.all TD.okB = true) (hs : slowAt ts = none) {X : List SD} (hX : Runs ts X 1200) (idle : Bool) (hid : idle = true → ∀ j, offF ts j = 0) :
    ∃ W J T, Meets ts (outTo ts ts.length) idle X W J T := by
  refine ⟨fun k => workL ts (endT X k).toNat, fun k => jobL ts (endT X k).toNat, endT X, ?_, ?_, end_zero X, ?_, ?_⟩
  · simp only [end_zero, workL]
    refine List.ext_getElem? fun j => ?_
    by_cases h : j < ts.length <;> simp [h, had_zero]
  · simp only [end_zero, jobL]
    refine List.ext_getElem? fun j => ?_
    by_cases h : j < ts.length <;> simp [h, had_zero]
  · intro k x hx
    refine ⟨end_succ hx, ?_⟩
    have hk := (List.getElem?_eq_some_iff.1 hx).1
    obtain ⟨i, f, t, g1, g2, g3, g4⟩ := runs_at hX k x hx
    obtain ⟨m, m1, m2, m3⟩ := take_end g1
    rw [end_take (by omega)] at m1
    have hta : ts[i]? = some (ts[i]'g2.lt) := List.getElem?_eq_getElem g2.lt
    obtain ⟨r, r1, r2, r3, r4, r5⟩ := told_parts ha hs hta
    obtain ⟨f1, f2, f3⟩ := ran_fits ha g2 hta r2 r3 r4 r5
    obtain ⟨c1, c2, p1, p2, o1, o2⟩ := cost_pos ha i
    obtain ⟨lt, eq, fwd, had, oth, one, rel⟩ := g2
    have hq := Int.ediv_nonneg (had_nn ts f i) (show 0 ≤ costF ts i by omega)
    have hm0 := Int.emod_nonneg (hadF ts f i) (show costF ts i ≠ 0 by omega)
    have hb : hadF ts f i / costF ts i ≤ 1200 := by
      have h1 := Int.ediv_le_self (costF ts i) (had_nn ts f i)
      have h2 := had_fast ts i (Nat.zero_le f)
      rw [had_zero] at h2
      omega
    have hrl := Int.mul_nonneg hq (show 0 ≤ perF ts i by omega)
    have hxt : x.til = t := by rw [eq]
    have hxf : x.frm = f := by rw [eq]
    have hxj : x.job = hadF ts f i / costF ts i := by rw [eq]
    have hxi : x.task = i := by rw [eq]
    have e1 : (endT X (k + 1)).toNat = t := by rw [end_succ hx, hxt]; simp
    have e0 : (endT X k).toNat = m := by rw [m1]; simp
    generalize hA : (ts[i]'lt) = a at hta
    have hc := at_cost hta
    have hp := at_per hta
    have hf := at_off hta
    refine ⟨i, a, r, hadF ts f i % costF ts i, hta, hxi, r1, by rw [m1]; omega, by rw [m1, hxf]; omega, by rw [hxf, hxt]; omega, by rw [hxt]; omega, ?_, ?_, by rw [hxj]; exact hq, by rw [hxj]; exact hb, by omega, by rw [hxj, ← hp]; exact hrl, by rw [hxj, hxf, ← hp, ← hf]; exact rel, hm0, by rw [hxf, hxt, ← hc]; exact f1, by omega, ?_, ?_⟩
    · rw [e0, jobL_at lt, hxj, m3]
    · rw [e0, workL_at lt, m3]
    · intro h
      rw [hxf, hxt, ← hc] at h
      obtain ⟨q1, q2, q3, q4⟩ := f2 h
      rw [e0, e1, hxj, hxt, ← hp, ← hf]
      refine ⟨q3, fun hi hj => q4 (hid hi) hj, ?_, ?_⟩
      · exact listF_set q1 fun j hj => by rw [oth j hj, m3]
      · exact listF_set q2 fun j hj => by rw [oth j hj, m3]
    · intro h
      rw [hxf, hxt, ← hc] at h
      obtain ⟨q1, q2⟩ := f3 h
      rw [e0, e1, hxf, hxt]
      refine ⟨?_, ?_⟩
      · exact listF_set q1 fun j hj => by rw [oth j hj, m3]
      · refine listF_same fun j => ?_
        by_cases e : j = i
        · subst e
          rw [q2, m3]
        · rw [oth j e, m3]
  · intro i a r hta hr
    obtain ⟨r', r1, r2, r3, r4, r5⟩ := told_parts ha hs hta
    obtain rfl : r = r' := by rw [r1] at hr; injection hr with hr; exact hr.symm
    obtain ⟨c1, c2, p1, p2, o1, o2⟩ := cost_pos ha i
    have lt := (List.getElem?_eq_some_iff.1 hta).1
    have hp := at_per hta
    have hf := at_off hta
    obtain ⟨m, m1, m2, m3⟩ := take_end hX
    have e0 : (endT X X.length).toNat = m := by rw [m1]; simp
    have hq := Int.ediv_nonneg (had_nn ts m i) (show 0 ≤ costF ts i by omega)
    have hb : hadF ts m i / costF ts i ≤ 1200 := by
      have h1 := Int.ediv_le_self (costF ts i) (had_nn ts m i)
      have h2 := had_fast ts i (Nat.zero_le m)
      rw [had_zero] at h2
      omega
    refine ⟨⟨by omega, by omega⟩, ⟨by omega, by omega, by omega, by omega⟩, _, by rw [e0]; exact jobL_at lt, hq, hb, fun k hk => ?_⟩
    rw [← m3]
    refine all_done ha hta r3 r4 (n := 1200) ?_
    rw [hp, hf]
    generalize (k : Int) * a.per = z at hk ⊢
    omega
end Go.Proofs.Ythnpeekeoaiaoaa.Task
