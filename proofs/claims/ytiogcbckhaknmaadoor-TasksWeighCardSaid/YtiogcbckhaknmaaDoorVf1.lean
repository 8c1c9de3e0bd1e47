/-
  Which instructions may be: the plain words; what lies within a frame; the words of a standard block. Conditions: ints.
-/
import Derived.Test.YtiogcbckhaknmaaDoorCod1
import Derived.Test.YtiogcbckhaknmaaDoorCell2
namespace Go.Proofs.YtiogcbckhaknmaaDoor.Vf
open Go.RowKit Go.Proofs.YtiogcbckhaknmaaDoor.W Go.Proofs.YtiogcbckhaknmaaDoor.Ints Go.Proofs.YtiogcbckhaknmaaDoor.Cod Go.Proofs.YtiogcbckhaknmaaDoor.Cell

def withinB (a n sz : Int) : Bool := decide (0 ≤ a) && (decide (1 ≤ n) && (decide (n ≤ sz) && decide (a ≤ sz - n)))
def stdL : List Int := [8, 8, 8, 7, 7, 11, 3, 3, 4, 4, 4, 5]
def stdF (k : Int) : Int := if k < 1 ∨ 12 < k then 0 else stdL.getD (k - 1).toNat 0
theorem std_bd (k : Int) : 0 ≤ stdF k ∧ stdF k ≤ 11 := by
  unfold stdF
  split
  · omega
  · rename_i h
    have : k = 1 ∨ k = 2 ∨ k = 3 ∨ k = 4 ∨ k = 5 ∨ k = 6 ∨ k = 7 ∨ k = 8 ∨ k = 9 ∨ k = 10 ∨ k = 11 ∨ k = 12 := by omega
    rcases this with rfl | rfl | rfl | rfl | rfl | rfl | rfl | rfl | rfl | rfl | rfl | rfl <;> decide
/-- what a call of a unit asks -/
def runB (ps : List PD) (at_ : Nat) (x : IN) (sz : Int) : Bool :=
  decide (0 ≤ x.a) && (decide (x.a < at_) && (!((ps.map PD.kind).getD x.a.toNat 0 == 1) && (decide (0 ≤ x.b) && (decide ((((ps.map fun p => p.first.length).getD x.a.toNat 0 : Nat) : Int) ≤ sz) && decide (x.b ≤ sz - (((ps.map fun p => p.first.length).getD x.a.toNat 0 : Nat) : Int))))))
/-- may an instruction be, by itself? -/
def aloneB (ps : List PD) (at_ i : Nat) (sz : Int) (tn : Int) (x : IN) : Bool :=
  if x.op = 1 then x.b == 0 && x.c == 0
  else if x.op = 2 ∨ x.op = 3 then x.b == 0 && (x.c == 0 && withinB x.a 1 sz)
  else if x.op = 4 ∨ x.op = 5 then withinB x.a x.b sz && (decide (-4294967295 ≤ x.c) && decide (x.c ≤ 4294967295))
  else if x.op = 6 then x.c == 0 && !(resultF x.a x.b == 0)
  else if x.op = 7 then x.c == 0 && (!(x.a == x.b) && (decide (1 ≤ x.a) && (decide (x.a ≤ 5) && (decide (1 ≤ x.b) && decide (x.b ≤ 5)))))
  else if x.op = 8 ∨ x.op = 9 ∨ x.op = 10 ∨ x.op = 15 then x.a == 0 && (x.b == 0 && x.c == 0)
  else if x.op = 11 ∨ x.op = 12 then x.b == 0 && (x.c == 0 && (decide ((i : Int) < x.a) && decide (x.a ≤ tn)))
  else if x.op = 13 then x.c == 0 && (decide (0 ≤ x.a) && (decide (x.a < 40) && (decide (1 ≤ x.b) && decide (x.b ≤ 10000))))
  else if x.op = 14 then x.c == 0 && (decide (1 ≤ x.b) && decide (x.b ≤ (i : Int)))
  else if x.op = 16 then withinB x.a x.b sz
  else if x.op = 17 then x.c == 0 && runB ps at_ x sz
  else if x.op = 18 then x.c == 0 && (decide (0 < stdF x.a) && withinB x.b (stdF x.a) sz)
  else false
theorem dos (o : Int) : o = 1 ∨ o = 2 ∨ o = 3 ∨ o = 4 ∨ o = 5 ∨ o = 6 ∨ o = 7 ∨ o = 8 ∨ o = 9 ∨ o = 10 ∨ o = 11 ∨ o = 12 ∨ o = 13 ∨ o = 14 ∨ o = 15 ∨ o = 16 ∨ o = 17 ∨ o = 18 ∨ ((o == 1) = false ∧ (o == 2) = false ∧ (o == 3) = false ∧ (o == 4) = false ∧ (o == 5) = false ∧ (o == 6) = false ∧ (o == 7) = false ∧ (o == 8) = false ∧ (o == 9) = false ∧ (o == 10) = false ∧ (o == 11) = false ∧ (o == 12) = false ∧ (o == 13) = false ∧ (o == 14) = false ∧ (o == 15) = false ∧ (o == 16) = false ∧ (o == 17) = false ∧ (o == 18) = false) := by
  simp only [beq_eq_false_iff_ne, ne_eq]
  omega

theorem within_any (a n : Int) (sz : Nat) (w : World) (hn : I64 n) (hs : sz ≤ 17592186044416) :
    Calls Tryd.prog 36 #[.int .i64 a, .int .i64 n, .int .i64 sz] w fun e w' => e = .returned (.bool (withinB a n sz)) ∧ Below w.heap.size w w' := by
  obtain ⟨h1, h2⟩ := hn
  by_cases g0 : 0 ≤ a
  · by_cases g1 : 1 ≤ n
    · by_cases g2 : n ≤ (sz : Int)
      · have hb : Hid (withinB a n sz = decide (a ≤ (sz : Int) - n)) := by simp [Hid, withinB, g0, g1, g2]
        have hw : IntKind.i64.wrap ((sz : Int) - n) = (sz : Int) - n := by simp [IntKind.wrap, IntKind.bits, IntKind.signed]; omega
        go_enter Tryd.func36, Tryd.ntmps36
        go_wp2
        go_ret
        exact ⟨ret_bool (by rw [hb.out]), Below.refl _ _⟩
      · have hb : Hid (withinB a n sz = false) := by simp [Hid, withinB, g2]
        go_enter Tryd.func36, Tryd.ntmps36
        go_wp2
        go_ret
        exact ⟨ret_bool (by rw [hb.out]), Below.refl _ _⟩
    · have hb : Hid (withinB a n sz = false) := by simp [Hid, withinB, g1]
      go_enter Tryd.func36, Tryd.ntmps36
      go_wp2
      go_ret
      exact ⟨ret_bool (by rw [hb.out]), Below.refl _ _⟩
  · have hb : Hid (withinB a n sz = false) := by simp [Hid, withinB, g0]
    go_enter Tryd.func36, Tryd.ntmps36
    go_wp2
    go_ret
    exact ⟨ret_bool (by rw [hb.out]), Below.refl _ _⟩
/-- the reference's: in the order n >= 1, n <= size, at >= 0, at < size, at + n <= size -/
theorem wordsIn_any (a n : Int) (sz : Nat) (w : World) (hs : sz ≤ 17592186044416) :
    Calls Tryd.prog 22 #[.int .i64 a, .int .i64 n, .int .i64 sz] w fun e w' => e = .returned (.bool (withinB a n sz)) ∧ w = w' := by
  by_cases g0 : 1 ≤ n ∧ n ≤ (sz : Int) ∧ 0 ≤ a ∧ a < (sz : Int)
  · obtain ⟨g0, g1, g2, g3⟩ := g0
    have hb : Hid (withinB a n sz = decide (a + n ≤ (sz : Int))) := by
      have : (a ≤ (sz : Int) - n) = (a + n ≤ (sz : Int)) := by apply propext; omega
      simp only [Hid, withinB, g0, g1, g2, decide_true, Bool.true_and]
      exact decide_eq_decide.2 (by omega)
    have hw : IntKind.i64.wrap (a + n) = a + n := by simp [IntKind.wrap, IntKind.bits, IntKind.signed]; omega
    go_enter Tryd.func22, Tryd.ntmps22
    go_wp2
    go_ret
    exact ⟨ret_bool (by rw [hb.out]), rfl⟩
  · have hb : Hid (withinB a n sz = false) := by
      simp only [Hid, withinB, Bool.and_eq_false_iff, decide_eq_false_iff_not]
      omega
    by_cases h1 : 1 ≤ n
    · by_cases h2 : n ≤ (sz : Int)
      · by_cases h3 : 0 ≤ a
        · have h4 : ¬ a < (sz : Int) := by omega
          go_enter Tryd.func22, Tryd.ntmps22
          go_wp2
          go_ret
          exact ⟨ret_bool (by rw [hb.out]), rfl⟩
        · go_enter Tryd.func22, Tryd.ntmps22
          go_wp2
          go_ret
          exact ⟨ret_bool (by rw [hb.out]), rfl⟩
      · go_enter Tryd.func22, Tryd.ntmps22
        go_wp2
        go_ret
        exact ⟨ret_bool (by rw [hb.out]), rfl⟩
    · go_enter Tryd.func22, Tryd.ntmps22
      go_wp2
      go_ret
      exact ⟨ret_bool (by rw [hb.out]), rfl⟩
theorem numberOk_any (n : Int) (w : World) : Calls Tryd.prog 23 #[.int .i64 n] w fun e w' => e = .returned (.bool (decide (-4294967295 ≤ n) && decide (n ≤ 4294967295))) ∧ w = w' := by
  by_cases h1 : -4294967295 ≤ n
  · go_enter Tryd.func23, Tryd.ntmps23
    go_wp2
    go_ret
    exact ⟨ret_bool (by simp [h1]), rfl⟩
  · go_enter Tryd.func23, Tryd.ntmps23
    go_wp2
    go_ret
    exact ⟨ret_bool (by simp; omega), rfl⟩
theorem kindOk_any (n : Int) (w : World) : Calls Tryd.prog 25 #[.int .i64 n] w fun e w' => e = .returned (.bool (decide (1 ≤ n) && decide (n ≤ 5))) ∧ w = w' := by
  by_cases h1 : 1 ≤ n
  · go_enter Tryd.func25, Tryd.ntmps25
    go_wp2
    go_ret
    exact ⟨ret_bool (by simp [h1]), rfl⟩
  · go_enter Tryd.func25, Tryd.ntmps25
    go_wp2
    go_ret
    exact ⟨ret_bool (by simp; omega), rfl⟩
end Go.Proofs.YtiogcbckhaknmaaDoor.Vf
