/-
  Slices of records: cells of an element. No conditions: plain lemmas.
-/
import Derived.Test.YtiogcbckhaknmaaDoorW
namespace Go.Proofs.YtiogcbckhaknmaaDoor.W
open Go.RowKit

theorem flat_len {α : Type} {f : α → List Value} {sz : Nat} (hf : ∀ a, (f a).length = sz) (xs : List α) : (xs.flatMap f).length = xs.length * sz := by
  induction xs with
  | nil => simp
  | cons x xs ih => rw [List.flatMap_cons, List.length_append, hf, ih, List.length_cons]; simp [Nat.add_mul]; omega
theorem flat_at {α : Type} {f : α → List Value} {sz : Nat} (hf : ∀ a, (f a).length = sz) : ∀ (xs : List α) (k j : Nat) (x : α), xs[k]? = some x → j < sz → (xs.flatMap f)[k * sz + j]? = (f x)[j]?
  | [], k, j, x, h, _ => by simp at h
  | y :: ys, 0, j, x, h, hj => by
    simp at h
    subst h
    rw [List.flatMap_cons, Nat.zero_mul, Nat.zero_add, List.getElem?_append_left (by rw [hf]; exact hj)]
  | y :: ys, k + 1, j, x, h, hj => by
    rw [List.flatMap_cons, List.getElem?_append_right (by rw [hf, Nat.add_mul]; omega), hf]
    rw [show (k + 1) * sz + j - sz = k * sz + j from by rw [Nat.add_mul]; omega]
    exact flat_at hf ys k j x (by simpa using h) hj
/-- the cells of element k -/
theorem Rd.rec {α : Type} {f : α → List Value} {sz n : Nat} (hf : ∀ a, (f a).length = sz) {w : World} {A : Option Addr} {xs : List α} (h : Rd w sz A n (xs.flatMap f)) (hn : 0 < n) :
    ∃ b o, A = some ⟨b, o, none⟩ ∧ ∀ (k : Nat) (x : α), xs[k]? = some x → ∀ (j : Nat) (u : Value), (f x)[j]? = some u → w.cell? ⟨b, o + (k * sz + j), none⟩ = some u := by
  obtain ⟨b, o, e, hc⟩ := h.2 hn
  refine ⟨b, o, e, fun k x hk j u hu => hc _ u ?_⟩
  have hj : j < sz := by rw [← hf x]; exact (List.getElem?_eq_some_iff.1 hu).1
  rw [flat_at hf xs k j x hk hj, hu]
theorem Rd.rec_len {α : Type} {f : α → List Value} {sz n : Nat} (hf : ∀ a, (f a).length = sz) (hs : 0 < sz) {w : World} {A : Option Addr} {xs : List α} (h : Rd w sz A n (xs.flatMap f)) : xs.length = n := by
  have := h.1
  rw [flat_len hf] at this
  exact Nat.eq_of_mul_eq_mul_right hs this
end Go.Proofs.YtiogcbckhaknmaaDoor.W
