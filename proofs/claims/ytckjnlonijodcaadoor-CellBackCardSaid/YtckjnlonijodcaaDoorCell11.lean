/-
  Values as bytes: the reference's PutValue. Conditions: the numbers are Go's ints.
-/
import Derived.Test.YtckjnlonijodcaaDoorCell10
namespace Go.Proofs.YtckjnlonijodcaaDoor.Cell
open Go.RowKit Go.Proofs.YtckjnlonijodcaaDoor.W Go.Proofs.YtckjnlonijodcaaDoor.Byt Go.Proofs.YtckjnlonijodcaaDoor.Num

/-- the number that PutValue takes apart -/
def upF (k n : Int) : Int := if n < 0 then n + (wideF k).1 else n
theorem up_byte {k n : Int} (h : fitsF k n = true) : 0 ≤ upF k n ∧ upF k n ≤ 4294967295 ∧ ∀ j, j < bytesN k → upF k n / 2 ^ (8 * j) % 256 = n / 2 ^ (8 * j) % 256 := by
  unfold upF wideF bytesN
  by_cases h1 : k = 1
  · simp [fitsF, h1] at h
    simp [h1, show ¬ n < 0 by omega]
    omega
  by_cases h2 : k = 2
  · simp [fitsF, h2] at h
    subst h2
    refine ⟨by simp; split <;> omega, by simp; split <;> omega, fun j hj => ?_⟩
    have : j = 0 ∨ j = 1 := by simp at hj; omega
    rcases this with rfl | rfl <;> simp <;> split <;> omega
  by_cases h3 : k = 3
  · simp [fitsF, h3] at h
    subst h3
    refine ⟨by simp; split <;> omega, by simp; split <;> omega, fun j hj => ?_⟩
    have : j = 0 ∨ j = 1 ∨ j = 2 ∨ j = 3 := by simp at hj; omega
    rcases this with rfl | rfl | rfl | rfl <;> simp <;> split <;> omega
  by_cases h4 : k = 4
  · simp [fitsF, h4] at h
    subst h4
    refine ⟨by simp; split <;> omega, by simp; split <;> omega, fun j hj => ?_⟩
    have : j = 0 ∨ j = 1 := by simp at hj; omega
    rcases this with rfl | rfl <;> simp <;> split <;> omega
  by_cases h5 : k = 5
  · simp [fitsF, h5] at h
    subst h5
    refine ⟨by simp; split <;> omega, by simp; split <;> omega, fun j hj => ?_⟩
    have : j = 0 ∨ j = 1 ∨ j = 2 ∨ j = 3 := by simp at hj; omega
    rcases this with rfl | rfl | rfl | rfl <;> simp <;> split <;> omega
  simp [fitsF, h1, h2, h3, h4, h5] at h

theorem made_u8 (m : Nat) : (madeCells (Value.cells (.int .u8 0)) (m * 1)) = (List.replicate m (Value.int .u8 0)).toArray := by
  apply Array.ext
  · simp [madeCells]
  · intro i h1 h2
    simp [madeCells, Value.cells, Nat.mod_one]
def halfC (m : Nat) (n : Int) (q : Nat) : Array Value := (List.replicate (m - q) (Value.int .u8 0) ++ byts ((putB m n).drop (m - q))).toArray
theorem half_zero (m : Nat) (n : Int) : halfC m n 0 = (List.replicate m (Value.int .u8 0)).toArray := by
  unfold halfC
  rw [Nat.sub_zero, List.drop_of_length_le (by rw [putB_len]; omega)]
  simp
theorem half_all (m : Nat) (n : Int) : (halfC m n m).toList = byts (putB m n) := by simp [halfC]
theorem set_rep (z v : Value) : ∀ (p : Nat) (L : List Value), (List.replicate (p + 1) z ++ L).set p v = List.replicate p z ++ v :: L
  | 0, L => rfl
  | p + 1, L => by
    show z :: (List.replicate (p + 1) z ++ L).set p v = _
    rw [set_rep z v p L]
    rfl
theorem half_succ {m q : Nat} {n : Int} (h : q < m) {p : Nat} (hp : p = m - 1 - q) : (halfC m n q).setIfInBounds p (.int .u8 ((byteAt n q).toNat : Int)) = halfC m n (q + 1) := by
  have e1 : m - q = p + 1 := by omega
  have e2 : m - (q + 1) = p := by omega
  unfold halfC
  rw [e1, e2, List.setIfInBounds_toArray, set_rep]
  congr 2
  rw [List.drop_eq_getElem_cons (i := p) (by rw [putB_len]; omega)]
  simp [putB, byts, show m - 1 - p = q by omega]

end Go.Proofs.YtckjnlonijodcaaDoor.Cell
