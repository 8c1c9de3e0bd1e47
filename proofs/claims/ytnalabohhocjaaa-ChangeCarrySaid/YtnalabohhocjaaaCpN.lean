/-
  What is copied, plain; a map's block is no row's. No conditions.
-/
import Derived.Test.YtnalabohhocjaaaCpM
import Derived.Test.YtnalabohhocjaaaChg9
namespace Go.Proofs.Ytnalabohhocjaaa.Chg
open Go.RowKit Go.Shelf Go.Maps Go.Proofs.Ytnalabohhocjaaa.W Go.Proofs.Ytnalabohhocjaaa.Ints Go.Proofs.Ytnalabohhocjaaa.Cod

theorem words_src {f : List Int} {a L j : Nat} {v : Value} (h : (ints (wordsAt f a L))[j]? = some v) : (ints f)[a + j]? = some v := by
  unfold wordsAt ints at *
  rw [List.map_take, List.map_drop] at h
  by_cases hj : j < L
  · rw [List.getElem?_take_of_lt hj, List.getElem?_drop] at h
    exact h
  · rw [List.getElem?_eq_none (by simp; omega)] at h
    cases h
theorem words_at_len {f : List Int} {a L : Nat} (h : a + L ≤ f.length) : (wordsAt f a L).length = L := by simp [wordsAt]; omega
theorem ints_put (F : List Int) (off : Nat) (xs : List Int) : (ints F).take off ++ ints xs ++ (ints F).drop (off + (ints xs).length) = ints (putF F off xs) := by
  simp [putF, ints, List.map_append, List.map_take, List.map_drop]
theorem own_ne {w : World} {gi n : Nat} {D : DataW Unit} (h : OwnM w gi n D) {B : Nat} {e : TypeId} {sz g m c : Nat} {xs : List Value} (hr : w.ownsRow B e sz (.slice (some ⟨g, 0, none⟩) m c) m xs) : gi ≠ g := by
  rintro rfl
  obtain ⟨es, clock, h1, _⟩ := h
  rcases hr.2 with ⟨h2, _⟩ | ⟨g', cap, cur, hv, _, hh, _⟩
  · cases h2
  · injection hv with v1
    injection v1 with v1
    injection v1 with v1
    subst v1
    rw [h1] at hh
    cases hh
theorem addr_add (b o j : Nat) : (⟨b, o, none⟩ : Addr).add j = ⟨b, o + j, none⟩ := by unfold Addr.add; split <;> simp_all
end Go.Proofs.Ytnalabohhocjaaa.Chg
