/-
  The order by deadlines is best, plainly: if any order will do, it will. Conditions: the tasks are right.
-/
import Derived.Test.YthnpeekeoaiaoaaOrd1
namespace Go.Proofs.Ythnpeekeoaiaoaa.Task
open Go.RowKit Go.Proofs.Ythnpeekeoaiaoaa.W Go.Proofs.Ythnpeekeoaiaoaa.Ints

theorem sum_perm (r : Int) {l l' : List TD} (h : l.Perm l') : sumF r l = sumF r l' := by
  have e : ∀ l : List TD, sumF r l = (l.map fun a => upF r a.per * a.cost).sum := fun l => by
    refine snoc_ind (P := fun l => sumF r l = (l.map fun a => upF r a.per * a.cost).sum) ?_ ?_ l
    · simp [sumF]
    · intro l a ih
      rw [sum_snoc, ih]
      simp
  rw [e, e]
  induction h with
  | nil => rfl
  | cons x _ ih => simp only [List.map_cons, List.sum_cons, ih]
  | swap x y l => simp only [List.map_cons, List.sum_cons]; omega
  | trans _ _ i1 i2 => exact i1.trans i2
/-- of task t, with those ahead of it: it is done in time -/
def inTime (hp : List TD) (t : TD) : Prop := ∃ r : Int, 1 ≤ r ∧ r ≤ t.dead ∧ t.cost + sumF r hp ≤ r
/-- each is done in time -/
def fine (l : List TD) : Prop := ∀ i t, l[i]? = some t → inTime (l.take i) t
theorem fine_nil : fine [] := fun i t h => by simp at h
theorem fine_snoc {l : List TD} {t : TD} : fine (l ++ [t]) ↔ fine l ∧ inTime l t := by
  constructor
  · intro h
    refine ⟨fun i u hu => ?_, ?_⟩
    · have hi := (List.getElem?_eq_some_iff.1 hu).1
      have := h i u (by rw [List.getElem?_append_left hi]; exact hu)
      rwa [List.take_append_of_le_length (by omega)] at this
    · have := h l.length t (by simp)
      simpa using this
  · rintro ⟨h1, h2⟩ i u hu
    by_cases hi : i < l.length
    · rw [List.getElem?_append_left hi] at hu
      rw [List.take_append_of_le_length (by omega)]
      exact h1 i u hu
    · have hl := (List.getElem?_eq_some_iff.1 hu).1
      simp at hl
      obtain rfl : i = l.length := by omega
      simp at hu
      subst hu
      simpa using h2
theorem inTime_perm {l l' : List TD} (h : l.Perm l') {t : TD} (ht : inTime l t) : inTime l' t := by
  obtain ⟨r, h1, h2, h3⟩ := ht
  exact ⟨r, h1, h2, by rw [← sum_perm r h]; exact h3⟩
theorem up_one {r p : Int} (h1 : 1 ≤ r) (h2 : r ≤ p) : upF r p = 1 := by
  unfold upF
  have e : r + p - 1 = (r - 1) + p * 1 := by omega
  rw [e, Int.add_mul_ediv_left _ _ (by omega), Int.ediv_eq_zero_of_lt (by omega) (by omega)]
  rfl
theorem up_ge {r p : Int} (h1 : 1 ≤ r) (hp : 1 ≤ p) : 1 ≤ upF r p := by
  have h := up_mono hp (show (1 : Int) ≤ r from h1)
  have e := up_one (r := 1) (p := p) (by omega) hp
  omega
/-- two neighbours are exchanged: the one with the lesser deadline goes ahead -/
theorem inTime_swap {hp : List TD} {a b : TD} (ha : a.okB = true) (hb : b.okB = true) (hd : b.dead ≤ a.dead) (h2 : inTime (hp ++ [a]) b) : inTime hp b ∧ inTime (hp ++ [b]) a := by
  obtain ⟨r, r1, r2, r3⟩ := h2
  obtain ⟨p1, p2, p3, p4, p5, p6, _⟩ := ok_parts ha
  obtain ⟨q1, q2, q3, q4, q5, q6, _⟩ := ok_parts hb
  rw [sum_snoc] at r3
  have hu := up_ge r1 p1
  have hm : a.cost ≤ upF r a.per * a.cost := by
    have := Int.mul_le_mul_of_nonneg_right hu (show 0 ≤ a.cost by omega)
    omega
  refine ⟨⟨r, r1, r2, by omega⟩, ⟨r, r1, by omega, ?_⟩⟩
  rw [sum_snoc, up_one r1 (by omega)]
  omega
theorem fine_swap {l : List TD} {a b : TD} (ha : a.okB = true) (hb : b.okB = true) (hd : b.dead ≤ a.dead) (h : fine (l ++ [a] ++ [b])) : fine (l ++ [b] ++ [a]) := by
  rw [fine_snoc, fine_snoc] at h ⊢
  obtain ⟨⟨h1, h2⟩, h3⟩ := h
  obtain ⟨h4, h5⟩ := inTime_swap ha hb hd h3
  exact ⟨⟨h1, h4⟩, h5⟩
theorem fine_append : ∀ (m l l' : List TD), l.Perm l' → fine l' → fine (l ++ m) → fine (l' ++ m) := by
  intro m
  refine snoc_ind (P := fun m => ∀ (l l' : List TD), l.Perm l' → fine l' → fine (l ++ m) → fine (l' ++ m)) ?_ ?_ m
  · intro l l' _ h _
    simpa using h
  · intro m t ih l l' hp h1 h2
    rw [← List.append_assoc, fine_snoc] at h2 ⊢
    exact ⟨ih l l' hp h1 h2.1, inTime_perm (hp.append_right m) h2.2⟩
/-- one with the greatest deadline of what is behind it goes to the end -/
theorem fine_last {t : TD} (ht : t.okB = true) : ∀ (x2 x1 : List TD), (∀ b ∈ x2, b.okB = true ∧ b.dead ≤ t.dead) → fine (x1 ++ t :: x2) → fine (x1 ++ x2 ++ [t])
  | [], x1, _, h => by simpa using h
  | b :: x2, x1, hb, h => by
    obtain ⟨hb1, hb2⟩ := hb b (List.mem_cons_self ..)
    have h1 : fine (x1 ++ [t] ++ [b] ++ x2) := by simpa using h
    have hpre : fine (x1 ++ [t] ++ [b]) := by
      intro i u hu
      have hi := (List.getElem?_eq_some_iff.1 hu).1
      have := h1 i u (by rw [List.getElem?_append_left hi]; exact hu)
      rwa [List.take_append_of_le_length (by omega)] at this
    have hsw := fine_swap ht hb1 hb2 hpre
    have h2 := fine_append x2 (x1 ++ [t] ++ [b]) (x1 ++ [b] ++ [t]) (by simpa using List.Perm.append_left x1 (List.Perm.swap b t [])) hsw h1
    have h3 := fine_last ht x2 (x1 ++ [b]) (fun c hc => hb c (List.mem_cons_of_mem _ hc)) (by simpa using h2)
    simpa using h3
/-- if any order will do, that by deadlines will -/
theorem fine_best : ∀ (y x : List TD), x.Perm y → y.all TD.okB = true → y.Pairwise (fun a b => a.dead ≤ b.dead) → fine x → fine y := by
  intro y
  refine snoc_ind (P := fun y => ∀ x : List TD, x.Perm y → y.all TD.okB = true → y.Pairwise (fun a b => a.dead ≤ b.dead) → fine x → fine y) ?_ ?_ y
  · intro x _ _ _ _
    exact fine_nil
  · intro y t ih x hp ha hs hf
    have htx : t ∈ x := hp.mem_iff.2 (by simp)
    obtain ⟨x1, x2, rfl⟩ := List.append_of_mem htx
    rw [List.all_append, Bool.and_eq_true] at ha
    have ht : t.okB = true := by simpa using ha.2
    rw [List.pairwise_append] at hs
    have hmem : ∀ b, b ∈ y ++ [t] → b.okB = true ∧ b.dead ≤ t.dead := fun b hb => by
      rcases List.mem_append.1 hb with h | h
      · exact ⟨List.all_eq_true.1 ha.1 b h, hs.2.2 b h t (by simp)⟩
      · obtain rfl : b = t := by simpa using h
        exact ⟨ht, Int.le_refl _⟩
    have h1 := fine_last ht x2 x1 (fun b hb => hmem b (hp.mem_iff.1 (by simp [hb]))) hf
    rw [fine_snoc] at h1 ⊢
    have hp2 : (x1 ++ x2).Perm y := by
      have e : (x1 ++ t :: x2).Perm (t :: (x1 ++ x2)) := List.perm_middle
      have e2 : (y ++ [t]).Perm (t :: y) := by simp
      exact (List.perm_cons t).1 ((e.symm.trans hp).trans e2)
    exact ⟨ih _ hp2 ha.1 hs.1 h1.1, inTime_perm hp2 h1.2⟩

/-- what Respond tells -/
theorem resp_fine {ts : List TD} (ha : ts.all TD.okB = true) : slowAt ts = none ↔ fine ts := by
  have key : ∀ i t, ts[i]? = some t → ((respAt ts i).isSome = true ↔ inTime (ts.take i) t) := by
    intro i t ht
    obtain ⟨p1, p2, p3, p4, p5, p6, _⟩ := ok_parts (get_ok ha ht)
    have e : respAt ts i = leastF (needF ts t i) t.dead.toNat := by simp only [respAt, ht, respF]
    rw [e]
    unfold leastF
    rw [Option.isSome_map, List.find?_isSome]
    constructor
    · rintro ⟨j, hj, hd⟩
      have hj := List.mem_range.1 hj
      refine ⟨(j : Int) + 1, by omega, by omega, ?_⟩
      exact of_decide_eq_true hd
    · rintro ⟨r, r1, r2, r3⟩
      obtain ⟨m, hm⟩ := Int.eq_ofNat_of_zero_le (show 0 ≤ r - 1 by omega)
      refine ⟨m, List.mem_range.2 (by omega), ?_⟩
      have : (m : Int) + 1 = r := by omega
      rw [this]
      exact decide_eq_true r3
  constructor
  · intro h i t ht
    refine (key i t ht).1 ?_
    have hi := (List.getElem?_eq_some_iff.1 ht).1
    unfold slowAt at h
    rw [List.find?_eq_none] at h
    have := h i (List.mem_range.2 hi)
    simpa [Option.isSome_iff_ne_none] using this
  · intro h
    refine slow_none (fun j hj => ?_)
    exact (key j ts[j] (List.getElem?_eq_getElem hj)).2 (h j _ (List.getElem?_eq_getElem hj))
end Go.Proofs.Ythnpeekeoaiaoaa.Task
