/-
  Who runs when, plainly: microsecond by microsecond; and a stretch at once. No conditions beyond what is said.
-/
import Derived.Test.YthnpeekeoaiaoaaTask6
namespace Go.Proofs.Ythnpeekeoaiaoaa.Task
open Go.RowKit Go.Proofs.Ythnpeekeoaiaoaa.W Go.Proofs.Ythnpeekeoaiaoaa.Ints

/-- a stretch in which one job runs -/
structure SD where
  task : Int
  job : Int
  frm : Int
  til : Int
def SD.cs (s : SD) : List Value := [.int .i64 s.task, .int .i64 s.job, .int .i64 s.frm, .int .i64 s.til]
theorem SD.len (s : SD) : s.cs.length = 4 := rfl
abbrev sdV (l : List SD) : List Value := l.flatMap SD.cs
def addS (O : List SD) (i j n m : Int) : List SD := match O.getLast? with
  | some s => if s.til = n ∧ s.task = i ∧ s.job = j then O.dropLast ++ [⟨s.task, s.job, s.frm, m⟩] else O ++ [⟨i, j, n, m⟩]
  | none => O ++ [⟨i, j, n, m⟩]
theorem add_nil (i j n m : Int) : addS [] i j n m = [⟨i, j, n, m⟩] := rfl
theorem add_yes (P : List SD) (i j n m f : Int) : addS (P ++ [⟨i, j, f, n⟩]) i j n m = P ++ [⟨i, j, f, m⟩] := by simp [addS]
theorem add_no {P : List SD} {s : SD} {i j n : Int} (m : Int) (h : ¬(s.til = n ∧ s.task = i ∧ s.job = j)) : addS (P ++ [s]) i j n m = P ++ [s] ++ [⟨i, j, n, m⟩] := by
  simp only [addS, List.getLast?_append, List.getLast?_singleton, Option.some_or]
  rw [if_neg h]
theorem snoc_cases {α : Type} (l : List α) : l = [] ∨ ∃ P s, l = P ++ [s] := by
  rcases Nat.eq_zero_or_pos l.length with h | h
  · exact .inl (List.eq_nil_of_length_eq_zero h)
  · exact .inr ⟨l.dropLast, l.getLast (by intro e; simp [e] at h), (List.dropLast_concat_getLast _).symm⟩
theorem add_ends (O : List SD) (i j n m : Int) : ∃ P f, addS O i j n m = P ++ [⟨i, j, f, m⟩] := by
  rcases snoc_cases O with rfl | ⟨P, s, rfl⟩
  · exact ⟨[], n, rfl⟩
  · by_cases h : s.til = n ∧ s.task = i ∧ s.job = j
    · obtain ⟨a, b, c, d⟩ := s
      obtain ⟨rfl, rfl, rfl⟩ := h
      exact ⟨P, c, add_yes ..⟩
    · exact ⟨P ++ [s], n, add_no _ h⟩
theorem add_add (O : List SD) (i j n m p : Int) : addS (addS O i j n m) i j m p = addS O i j n p := by
  rcases snoc_cases O with rfl | ⟨P, s, rfl⟩
  · simp [addS]
  · by_cases h : s.til = n ∧ s.task = i ∧ s.job = j
    · obtain ⟨a, b, c, d⟩ := s
      obtain ⟨rfl, rfl, rfl⟩ := h
      rw [add_yes, add_yes, add_yes]
    · rw [add_no _ h, add_no _ h, add_yes]

def costF (ts : List TD) (i : Nat) : Int := (ts.map TD.cost).getD i 1
def perF (ts : List TD) (i : Nat) : Int := (ts.map TD.per).getD i 1
def offF (ts : List TD) (i : Nat) : Int := (ts.map TD.off).getD i 0
/-- how many jobs of it were released up to n -/
def relF (ts : List TD) (i : Nat) (n : Int) : Int := if offF ts i ≤ n then (n - offF ts i) / perF ts i + 1 else 0
def readyB (ts : List TD) (D : List Int) (n : Int) (i : Nat) : Bool := decide (D.getD i 0 < relF ts i n * costF ts i)
def firstF (ts : List TD) (D : List Int) (n : Int) : Option Nat := (List.range ts.length).find? (readyB ts D n)
def stepF (ts : List TD) (n : Nat) (S : List Int × List SD) : List Int × List SD := match firstF ts S.1 n with
  | some i => (S.1.set i (S.1.getD i 0 + 1), addS S.2 i (S.1.getD i 0 / costF ts i) n (n + 1))
  | none => S
def playF (ts : List TD) : Nat → List Int × List SD
  | 0 => (List.replicate ts.length 0, [])
  | n + 1 => stepF ts n (playF ts n)
theorem at_cost {ts : List TD} {k : Nat} {t : TD} (h : ts[k]? = some t) : costF ts k = t.cost := by simp [costF, h]
theorem at_per {ts : List TD} {k : Nat} {t : TD} (h : ts[k]? = some t) : perF ts k = t.per := by simp [perF, h]
theorem at_off {ts : List TD} {k : Nat} {t : TD} (h : ts[k]? = some t) : offF ts k = t.off := by simp [offF, h]
theorem cost_pos {ts : List TD} (ha : ts.all TD.okB = true) (k : Nat) : 1 ≤ costF ts k ∧ costF ts k ≤ 1000000 ∧ 1 ≤ perF ts k ∧ perF ts k ≤ 1000000 ∧ 0 ≤ offF ts k ∧ offF ts k ≤ 1000000 := by
  rcases hk : ts[k]? with _ | t
  · simp [costF, perF, offF, hk]
  · rw [at_cost hk, at_per hk, at_off hk]
    obtain ⟨p1, p2, p3, p4, p5, p6, p7, p8⟩ := ok_parts (get_ok ha hk)
    omega
theorem rel_bd {ts : List TD} (ha : ts.all TD.okB = true) (k : Nat) {n : Int} (h0 : 0 ≤ n) : 0 ≤ relF ts k n ∧ relF ts k n ≤ n + 1 := by
  obtain ⟨_, _, h1, _, h2, _⟩ := cost_pos ha k
  unfold relF
  split
  · have h3 := Int.ediv_nonneg (show 0 ≤ n - offF ts k by omega) (show 0 ≤ perF ts k by omega)
    have h4 := Int.ediv_le_self (perF ts k) (show 0 ≤ n - offF ts k by omega)
    omega
  · omega
theorem first_some {ts : List TD} {D : List Int} {n : Int} {k : Nat} (hk : k < ts.length) (h : readyB ts D n k = true) (hp : ∀ j, j < k → readyB ts D n j = false) : firstF ts D n = some k := by
  unfold firstF
  rw [List.find?_eq_some_iff_getElem]
  refine ⟨h, k, by simpa using hk, by simp, fun j hj => ?_⟩
  have := hp j hj
  simpa using this
theorem first_none {ts : List TD} {D : List Int} {n : Int} (hp : ∀ j, j < ts.length → readyB ts D n j = false) : firstF ts D n = none := by
  unfold firstF
  rw [List.find?_eq_none]
  intro j hj
  have := hp j (List.mem_range.1 hj)
  simpa using this
theorem first_inv {ts : List TD} {D : List Int} {n : Int} {k : Nat} (h : firstF ts D n = some k) : k < ts.length ∧ readyB ts D n k = true ∧ ∀ j, j < k → readyB ts D n j = false := by
  unfold firstF at h
  rw [List.find?_eq_some_iff_getElem] at h
  obtain ⟨h1, i, hi, rfl, h3⟩ := h
  simp at hi
  simp at h1
  refine ⟨by simpa using hi, by simpa using h1, fun j hj => ?_⟩
  have := h3 j (by simpa using hj)
  simpa using this
theorem step_some {ts : List TD} {n k : Nat} {S : List Int × List SD} (h : firstF ts S.1 n = some k) : stepF ts n S = (S.1.set k (S.1.getD k 0 + 1), addS S.2 k (S.1.getD k 0 / costF ts k) n (n + 1)) := by simp only [stepF, h]
theorem step_nothing {ts : List TD} {n : Nat} {S : List Int × List SD} (h : firstF ts S.1 n = none) : stepF ts n S = S := by simp only [stepF, h]
theorem getD_set {D : List Int} {k j : Nat} {v : Int} (hk : k < D.length) : (D.set k v).getD j 0 = if k = j then v else D.getD j 0 := by
  by_cases h : k = j
  · subst h
    simp [hk]
  · simp [h]
theorem play_ok (ts : List TD) : ∀ n : Nat, (playF ts n).1.length = ts.length ∧ (playF ts n).2.length ≤ n ∧ ∀ i, 0 ≤ (playF ts n).1.getD i 0 ∧ (playF ts n).1.getD i 0 ≤ n
  | 0 => ⟨by simp [playF], by simp [playF], fun i => by
    simp only [playF, List.getD_eq_getElem?_getD, List.getElem?_replicate]
    split <;> simp⟩
  | n + 1 => by
    obtain ⟨h1, h2, h3⟩ := play_ok ts n
    show (stepF ts n (playF ts n)).1.length = _ ∧ (stepF ts n (playF ts n)).2.length ≤ _ ∧ ∀ i, 0 ≤ (stepF ts n (playF ts n)).1.getD i 0 ∧ (stepF ts n (playF ts n)).1.getD i 0 ≤ _
    rcases hf : firstF ts (playF ts n).1 n with _ | k
    · rw [step_nothing hf]
      refine ⟨h1, by omega, fun i => ?_⟩
      have := h3 i
      omega
    · rw [step_some hf]
      obtain ⟨hk, _⟩ := first_inv hf
      refine ⟨by simpa using h1, ?_, fun i => ?_⟩
      · simp only
        rcases snoc_cases (playF ts n).2 with e | ⟨P, s, e⟩
        · rw [e, add_nil]; simp
        · rw [e] at h2 ⊢
          by_cases h : s.til = (n : Int) ∧ s.task = (k : Int) ∧ s.job = (playF ts n).1.getD k 0 / costF ts k
          · obtain ⟨a, b, c, d⟩ := s
            obtain ⟨rfl, rfl, rfl⟩ := h
            rw [add_yes]
            simp at h2 ⊢
            omega
          · rw [add_no _ h]
            simp at h2 ⊢
            omega
      · simp only
        rw [getD_set (by omega)]
        have h4 := h3 i
        have h5 := h3 k
        split <;> omega

/-- while nothing is released, what is ready is known by how many jobs were released -/
theorem ready_is {ts : List TD} (ha : ts.all TD.okB = true) {D : List Int} {n : Int} {i : Nat} {R : Int} (hR : relF ts i n = R) : readyB ts D n i = decide (0 < R - D.getD i 0 / costF ts i) := by
  obtain ⟨h1, _⟩ := cost_pos ha i
  unfold readyB
  rw [hR]
  have h2 := @Int.ediv_lt_iff_lt_mul (D.getD i 0) R (costF ts i) (by omega)
  rw [decide_eq_decide]
  omega
theorem play_idle {ts : List TD} {n : Nat} (e : Nat) (hn : n ≤ e) (h : ∀ m : Nat, n ≤ m → m < e → ∀ i, i < ts.length → readyB ts (playF ts n).1 m i = false) : playF ts e = playF ts n := by
  induction e with
  | zero =>
    obtain rfl : n = 0 := by omega
    rfl
  | succ e ih =>
    by_cases he : n = e + 1
    · subst he; rfl
    · have hi := ih (by omega) (fun m h1 h2 => h m h1 (by omega))
      show stepF ts e (playF ts e) = _
      rw [hi]
      exact step_nothing (first_none (fun j hj => h e (by omega) (by omega) j hj))
theorem play_run {ts : List TD} (ha : ts.all TD.okB = true) {n k : Nat} (hk : firstF ts (playF ts n).1 n = some k) (e : Nat) (hn : n < e)
    (hl : (e : Int) ≤ n + (costF ts k - (playF ts n).1.getD k 0 % costF ts k)) (hR : ∀ i, i < ts.length → ∀ m : Nat, n ≤ m → m < e → relF ts i m = relF ts i n) :
    playF ts e = ((playF ts n).1.set k ((playF ts n).1.getD k 0 + (e - n)), addS (playF ts n).2 k ((playF ts n).1.getD k 0 / costF ts k) n e) := by
  obtain ⟨h1, h2, h3⟩ := first_inv hk
  obtain ⟨g1, _, g3⟩ := play_ok ts n
  obtain ⟨c1, _⟩ := cost_pos ha k
  have hd := Int.mul_ediv_add_emod ((playF ts n).1.getD k 0) (costF ts k)
  have hm0 := Int.emod_nonneg ((playF ts n).1.getD k 0) (show costF ts k ≠ 0 by omega)
  have hm1 := Int.emod_lt_of_pos ((playF ts n).1.getD k 0) (show 0 < costF ts k by omega)
  obtain ⟨f, rfl⟩ : ∃ f, e = n + 1 + f := ⟨e - n - 1, by omega⟩
  clear hn
  induction f with
  | zero =>
    show stepF ts n (playF ts n) = _
    rw [step_some hk]
    congr 2
    · simp <;> omega
  | succ f ih =>
    have hi := ih (by omega) (fun i hi m h1 h2 => hR i hi m h1 (by omega))
    show stepF ts (n + 1 + f) (playF ts (n + 1 + f)) = _
    have hq : ((playF ts n).1.getD k 0 + (((n + 1 + f : Nat) : Int) - n)) / costF ts k = (playF ts n).1.getD k 0 / costF ts k := by
      rw [show (playF ts n).1.getD k 0 + (((n + 1 + f : Nat) : Int) - n) = ((playF ts n).1.getD k 0 % costF ts k + (f + 1)) + costF ts k * ((playF ts n).1.getD k 0 / costF ts k) from by omega, Int.add_mul_ediv_left _ _ (by omega), Int.ediv_eq_zero_of_lt (by omega) (by omega), Int.zero_add]
    have hfirst : firstF ts (playF ts (n + 1 + f)).1 ((n + 1 + f : Nat) : Int) = some k := by
      rw [hi]
      refine first_some h1 ?_ (fun j hj => ?_)
      · rw [ready_is ha (hR k h1 (n + 1 + f) (by omega) (by omega))]
        rw [ready_is ha rfl] at h2
        simp only
        rw [getD_set (by omega), if_pos rfl, hq]
        exact h2
      · have h4 := h3 j hj
        rw [ready_is ha rfl] at h4
        rw [ready_is ha (hR j (by omega) (n + 1 + f) (by omega) (by omega))]
        simp only
        rw [getD_set (by omega), if_neg (by omega)]
        exact h4
    rw [step_some hfirst, hi]
    simp only
    rw [getD_set (by omega), if_pos rfl, hq, show ((n + 1 + f : Nat) : Int) + 1 = ((n + 1 + (f + 1) : Nat) : Int) from by omega, add_add]
    congr 1
    rw [List.set_set]
    congr 1
    omega

/-- how the board stands -/
structure LD where
  count : Int
  job : Int
  left : Int
def LD.cs (l : LD) : List Value := [.int .i64 l.count, .int .i64 l.job, .int .i64 l.left]
theorem LD.len (l : LD) : l.cs.length = 3 := rfl
abbrev ldV (l : List LD) : List Value := l.flatMap LD.cs
def lineAt (ts : List TD) (D R : List Int) (i : Nat) : LD := ⟨R.getD i 0 - D.getD i 0 / costF ts i, D.getD i 0 / costF ts i, costF ts i - D.getD i 0 % costF ts i⟩
def lineF (ts : List TD) (D R : List Int) : List LD := (List.range ts.length).map (lineAt ts D R)
theorem line_len (ts : List TD) (D R : List Int) : (lineF ts D R).length = ts.length := by simp [lineF]
theorem line_at {ts : List TD} {i : Nat} (h : i < ts.length) (D R : List Int) : (lineF ts D R)[i]? = some (lineAt ts D R i) := by simp [lineF, h]
theorem line_set {ts : List TD} {D R D' R' : List Int} {k : Nat} (h : ∀ i, i ≠ k → D'.getD i 0 = D.getD i 0 ∧ R'.getD i 0 = R.getD i 0) : lineF ts D' R' = (lineF ts D R).set k (lineAt ts D' R' k) := by
  apply List.ext_getElem?
  intro i
  by_cases hi : i < ts.length
  · rw [line_at hi]
    by_cases hk : k = i
    · subst hk
      rw [List.getElem?_set_self (by rw [line_len]; exact hi)]
    · rw [List.getElem?_set_ne hk, line_at hi]
      obtain ⟨h1, h2⟩ := h i (by omega)
      simp only [lineAt, h1, h2]
  · rw [List.getElem?_eq_none (by rw [line_len]; omega), List.getElem?_eq_none (by simp [line_len]; omega)]
/-- a stretch of d: not yet done, or done -/
theorem line_run {ts : List TD} (ha : ts.all TD.okB = true) {D R : List Int} {k : Nat} (hk : k < D.length) {d : Int} (hd : 0 ≤ d) (hl : d < (lineAt ts D R k).left) :
    lineAt ts (D.set k (D.getD k 0 + d)) R k = ⟨(lineAt ts D R k).count, (lineAt ts D R k).job, (lineAt ts D R k).left - d⟩ := by
  obtain ⟨c1, _⟩ := cost_pos ha k
  have hdm := Int.mul_ediv_add_emod (D.getD k 0) (costF ts k)
  have hm0 := Int.emod_nonneg (D.getD k 0) (show costF ts k ≠ 0 by omega)
  simp only [lineAt] at hl ⊢
  rw [getD_set hk, if_pos rfl]
  have e : D.getD k 0 + d = (D.getD k 0 % costF ts k + d) + costF ts k * (D.getD k 0 / costF ts k) := by omega
  rw [e, Int.add_mul_ediv_left _ _ (by omega), Int.ediv_eq_zero_of_lt (by omega) (by omega), Int.zero_add, Int.add_mul_emod_self_left, Int.emod_eq_of_lt (by omega) (by omega)]
  congr 1
  omega
theorem line_done {ts : List TD} (ha : ts.all TD.okB = true) {D R : List Int} {k : Nat} (hk : k < D.length) {d : Int} (hl : d = (lineAt ts D R k).left) :
    lineAt ts (D.set k (D.getD k 0 + d)) R k = ⟨(lineAt ts D R k).count - 1, (lineAt ts D R k).job + 1, costF ts k⟩ := by
  obtain ⟨c1, _⟩ := cost_pos ha k
  have hdm := Int.mul_ediv_add_emod (D.getD k 0) (costF ts k)
  simp only [lineAt] at hl ⊢
  rw [getD_set hk, if_pos rfl]
  have e : D.getD k 0 + d = 0 + costF ts k * (D.getD k 0 / costF ts k + 1) := by rw [Int.mul_add]; omega
  rw [e, Int.add_mul_ediv_left _ _ (by omega), Int.add_mul_emod_self_left]
  simp
  omega
/-- what was released, and no more, up to what comes next -/
def Rel (ts : List TD) (R : List Int) (n : Nat) : Prop := R.length = ts.length ∧ ∀ i, i < ts.length → 0 ≤ R.getD i 0 ∧ (R.getD i 0 = 0 ∨ offF ts i + (R.getD i 0 - 1) * perF ts i ≤ n) ∧ (n : Int) ≤ offF ts i + R.getD i 0 * perF ts i
theorem rel_in {ts : List TD} (ha : ts.all TD.okB = true) {R : List Int} {n : Nat} (h : Rel ts R n) {i : Nat} (hi : i < ts.length) {m : Nat} (h1 : n ≤ m) (h2 : (m : Int) < offF ts i + R.getD i 0 * perF ts i) : relF ts i m = R.getD i 0 := by
  obtain ⟨g1, g2, g3⟩ := h.2 i hi
  obtain ⟨_, _, p1, _, p2, _⟩ := cost_pos ha i
  unfold relF
  generalize R.getD i 0 = r at *
  generalize perF ts i = p at *
  generalize offF ts i = o at *
  by_cases hr : r = 0
  · subst hr
    rw [if_neg (by omega)]
  · have g4 : o + (r - 1) * p ≤ n := by
      rcases g2 with g2 | g2
      · exact absurd g2 hr
      · exact g2
    have h0 : 0 ≤ (r - 1) * p := Int.mul_nonneg (by omega) (by omega)
    rw [if_pos (by omega)]
    have e : ((m : Int) - o) / p = r - 1 := by
      have hx : r * p = (r - 1) * p + p := by rw [Int.sub_mul]; omega
      rw [show (m : Int) - o = ((m : Int) - o - (r - 1) * p) + p * (r - 1) from by rw [Int.mul_comm p]; omega, Int.add_mul_ediv_left _ _ (by omega), Int.ediv_eq_zero_of_lt (by omega) (by omega), Int.zero_add]
    rw [e]
    omega
theorem rel_start (ts : List TD) (ha : ts.all TD.okB = true) : Rel ts (List.replicate ts.length 0) 0 := by
  refine ⟨by simp, fun i hi => ?_⟩
  obtain ⟨_, _, p1, _, p2, _⟩ := cost_pos ha i
  simp [hi]
  exact p2
/-- the next release: of k, at a -/
theorem rel_next {ts : List TD} (ha : ts.all TD.okB = true) {R : List Int} {n k a : Nat} (h : Rel ts R n) (hk : k < ts.length) (hat : offF ts k + R.getD k 0 * perF ts k = a) (hmin : ∀ i, i < ts.length → (a : Int) ≤ offF ts i + R.getD i 0 * perF ts i) :
    n ≤ a ∧ Rel ts (R.set k (R.getD k 0 + 1)) a := by
  have hn := (h.2 k hk).2.2
  refine ⟨by omega, by simpa using h.1, fun i hi => ?_⟩
  obtain ⟨g1, g2, g3⟩ := h.2 i hi
  obtain ⟨_, _, p1, _, p2, _⟩ := cost_pos ha i
  rw [getD_set (by rw [h.1]; exact hk)]
  have hm := hmin i hi
  split
  · rename_i e
    subst e
    refine ⟨by omega, .inr ?_, ?_⟩
    · rw [show R.getD k 0 + 1 - 1 = R.getD k 0 from by omega]; omega
    · rw [Int.add_mul]; omega
  · refine ⟨g1, ?_, hm⟩
    rcases g2 with g2 | g2
    · exact .inl g2
    · exact .inr (by omega)
end Go.Proofs.Ythnpeekeoaiaoaa.Task
