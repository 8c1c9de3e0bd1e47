/-
  TasksBest, plainly: the order by deadlines is one of the orders; if it will not do, none will. Conditions: the tasks are right.
-/
import Derived.Test.YthnpeekeoaiaoaaBst3
import Derived.Test.YthnpeekeoaiaoaaOrd1
namespace Go.Proofs.Ythnpeekeoaiaoaa.Task
open Go.RowKit Go.Proofs.Ythnpeekeoaiaoaa.W Go.Proofs.Ythnpeekeoaiaoaa.Ints

theorem perm_range {ts : List TD} : permF ts (List.range ts.length) = ts := by
  refine List.ext_getElem? fun j => ?_
  have h : ∀ n, n ≤ ts.length → permF ts (List.range n) = ts.take n := by
    intro n
    induction n with
    | zero => intro _; simp [permF]
    | succ n ih =>
      intro hn
      have hx : ts[n]? = some ts[n] := List.getElem?_eq_getElem (by omega)
      rw [List.range_succ, perm_snoc hx, ih (by omega), List.take_succ_eq_append_getElem (by omega)]
  rw [h _ (Nat.le_refl _), List.take_length]
theorem best_perm (ts : List TD) : (permF ts (ordTo ts ts.length)).Perm ts := by
  have h : (permF ts (ordTo ts ts.length)).Perm (permF ts (List.range ts.length)) := (List.mergeSort_perm (List.range ts.length) (leO ts)).filterMap _
  rwa [perm_range] at h
theorem best_sorted (ts : List TD) : (permF ts (ordTo ts ts.length)).Pairwise (fun a b => a.dead ≤ b.dead) := by
  have h := ord_pw ts ts.length
  unfold permF
  rw [List.pairwise_filterMap]
  refine h.imp fun {a b} hab x hx y hy => ?_
  have e1 := dl_at hx
  have e2 := dl_at hy
  unfold ltO at hab
  omega
theorem fault_zero {ts : List TD} (ha : ts.all TD.okB = true) (h1 : 1 ≤ ts.length) (h2 : ts.length ≤ 16) : faultF ts = (0, 0) := by
  unfold faultF
  rw [if_neg (by omega), bad_none ha, if_neg (by omega)]
theorem will_iff {ts : List TD} (ha : ts.all TD.okB = true) (h1 : 1 ≤ ts.length) (h2 : ts.length ≤ 16) : willB ts = true ↔ fine ts := by
  rw [← resp_fine ha]
  unfold willB respondF
  rw [fault_zero ha h1 h2, if_pos rfl]
  rcases slowAt ts with _ | j
  · simp
  · simp
theorem perm_all {x y : List TD} (h : x.Perm y) (ha : y.all TD.okB = true) : x.all TD.okB = true := by
  rw [List.all_eq_true] at ha ⊢
  exact fun t ht => ha t (h.mem_iff.1 ht)
theorem best_none {ts : List TD} (ha : ts.all TD.okB = true) (h1 : 1 ≤ ts.length) (h2 : ts.length ≤ 16) (hw : willB (permF ts (ordTo ts ts.length)) = false) : ∀ y, y.Perm ([] ++ ts) → willB y = false := by
  intro y hy
  rw [List.nil_append] at hy
  have hp := best_perm ts
  have hoy := perm_all hy ha
  have hob := perm_all hp ha
  rcases hb : willB y with _ | _
  · rfl
  · have hf := (will_iff hoy (by rw [hy.length_eq]; exact h1) (by rw [hy.length_eq]; exact h2)).1 hb
    have hg := fine_best _ y (hy.trans hp.symm) hob (best_sorted ts) hf
    have := (will_iff hob (by rw [hp.length_eq]; exact h1) (by rw [hp.length_eq]; exact h2)).2 hg
    rw [hw] at this
    exact this.symm
theorem order_two {ts : List TD} (ha : ts.all TD.okB = true) (h1 : 1 ≤ ts.length) (h2 : ts.length ≤ 16) :
    (willB (permF ts (ordTo ts ts.length)) = true ∧ orderF ts = ((ordTo ts ts.length).map (fun k : Nat => (k : Int)), (0, 0))) ∨ (willB (permF ts (ordTo ts ts.length)) = false ∧ ∃ s, orderF ts = ([], (13, s))) := by
  have hp := best_perm ts
  have hob := perm_all hp ha
  have hz := fault_zero hob (by rw [hp.length_eq]; exact h1) (by rw [hp.length_eq]; exact h2)
  unfold orderF willB
  rw [fault_zero ha h1 h2, if_pos rfl]
  rcases respond_codes (by rw [hz]) with ⟨h, _⟩ | h
  · left
    rw [if_pos h, h]
    exact ⟨rfl, rfl⟩
  · right
    rw [if_neg (by omega), h]
    exact ⟨rfl, _, rfl⟩
end Go.Proofs.Ythnpeekeoaiaoaa.Task
