/-
  Contracts of the small functions of pair and of the reference's pair: what each answers, for every input. Conditions: none but that lengths are lengths.
-/
import Derived.Test.YtlccpnloankloaaInts
namespace Go.Proofs.Ytlccpnloankloaa.Pair
open Go.RowKit Go.Proofs.Ytlccpnloankloaa.W Go.Proofs.Ytlccpnloankloaa.Ints

def inB (n l h : Int) : Bool := decide (l ≤ n) && decide (n ≤ h)
theorem inB_true {n l h : Int} (a : l ≤ n) (b : n ≤ h) : inB n l h = true := by simp [inB, a, b]
theorem inB_false {n l h : Int} (a : n < l ∨ h < n) : inB n l h = false := by
  simp only [inB, Bool.and_eq_false_iff, decide_eq_false_iff_not]; omega
theorem inB_iff {n l h : Int} : inB n l h = true ↔ l ≤ n ∧ n ≤ h := by simp [inB]

theorem in_any (n l h : Int) (w : World) :
    Calls Try.prog 34 #[.int .i64 n, .int .i64 l, .int .i64 h] w fun e w' => e = .returned (.bool (inB n l h)) ∧ w = w' := by
  go_enter Try.func34, Try.ntmps34
  go_wp2
  all_goals go_ret
  all_goals refine ⟨ret_bool ?_, rfl⟩
  all_goals (rw [Bool.eq_iff_iff]; simp [inB]; try omega)

def toldB (me term cyc : Int) (len : Nat) : Bool := inB me 0 1 && inB term 0 1000000 && inB cyc 0 999999999 && decide (len ≤ 20000)

theorem told_any (me term cyc : Int) (A : Option Addr) (len cap : Nat) (w : World) :
    Calls Try.prog 44 #[.int .i64 me, .int .i64 term, .int .i64 cyc, .slice A len cap] w fun e w' => e = .returned (.bool (toldB me term cyc len)) ∧ w = w' := by
  go_enter Try.func44, Try.ntmps44
  go_wp2_with (go_at_call 34; refine (in_any _ _ _ _).mono ?_; rintro e w' ⟨rfl, rfl⟩)
  all_goals go_ret
  all_goals refine ⟨ret_bool ?_, rfl⟩
  all_goals (rw [Bool.eq_iff_iff]; simp [toldB, *]; try omega)

theorem MayTell_any (me term cyc : Int) (A : Option Addr) (len cap : Nat) (w : World) :
    Calls Try.prog 42 #[.int .i64 me, .int .i64 term, .int .i64 cyc, .slice A len cap] w fun e w' => e = .returned (.bool (toldB me term cyc len)) ∧ w = w' := by
  go_enter Try.func42, Try.ntmps42
  go_wp2
  all_goals go_ret
  all_goals refine ⟨ret_bool ?_, rfl⟩
  all_goals (rw [Bool.eq_iff_iff]; simp [toldB, inB]; try omega)

def standB (me : Int) (act : Bool) (term cyc : Int) (len : Nat) (sil pat : Int) : Bool :=
  toldB me term cyc len && inB pat 1 1000 && inB sil 0 (pat - 1) && !(act && decide (0 < sil))

/-- the value of a side -/
abbrev sideV (me : Int) (act : Bool) (term cyc : Int) (img : Value) (sil pat : Int) : Value := .agg #[.int .i64 me, .bool act, .int .i64 term, .int .i64 cyc, img, .int .i64 sil, .int .i64 pat]
abbrev sideC (me : Int) (act : Bool) (term cyc : Int) (img : Value) (sil pat : Int) : Array Value := #[.int .i64 me, .bool act, .int .i64 term, .int .i64 cyc, img, .int .i64 sil, .int .i64 pat]
abbrev beatV (me term cyc : Int) (img : Value) : Value := .agg #[.int .i64 me, .int .i64 term, .int .i64 cyc, img]

set_option maxHeartbeats 400000 in
theorem MayStand_any (me : Int) (act : Bool) (term cyc : Int) (A : Option Addr) (n c : Nat) (sil pat : Int) (w : World) :
    Calls Try.prog 37 #[sideV me act term cyc (.slice A n c) sil pat] w fun e w' => e = .returned (.bool (standB me act term cyc n sil pat)) ∧ Below w.heap.size w w' := by
  cases h1 : toldB me term cyc n
  · have H1 := Lib.hid h1
    clear h1
    have hfin : false = standB me act term cyc n sil pat := by simp [standB, H1.out]
    have HF := Lib.hid hfin
    clear hfin
    go_enter Try.func37, Try.ntmps37
    go_wp2_with (go_at_call 42; refine (MayTell_any _ _ _ _ _ _ _).mono ?_; rintro e w' ⟨rfl, rfl⟩; rw [H1.out])
    all_goals go_ret
    all_goals exact ⟨ret_bool HF.out, (Below.refl _ _).alloc (Nat.le_refl _) _⟩
  · have H1 := Lib.hid h1
    clear h1
    go_enter Try.func37, Try.ntmps37
    go_wp2_with (go_at_call 42; refine (MayTell_any _ _ _ _ _ _ _).mono ?_; rintro e w' ⟨rfl, rfl⟩; rw [H1.out])
    all_goals go_ret
    all_goals refine ⟨ret_bool ?_, (Below.refl _ _).alloc (Nat.le_refl _) _⟩
    all_goals (rw [Bool.eq_iff_iff]; simp [standB, inB, H1.out]; try first | omega | (cases act <;> simp_all <;> omega))
theorem toldB_iff {me term cyc : Int} {n : Nat} : toldB me term cyc n = true ↔ 0 ≤ me ∧ me ≤ 1 ∧ 0 ≤ term ∧ term ≤ 1000000 ∧ 0 ≤ cyc ∧ cyc ≤ 999999999 ∧ n ≤ 20000 := by
  simp only [toldB, inB, Bool.and_eq_true, decide_eq_true_eq]; omega
theorem standB_iff {me : Int} {act : Bool} {term cyc : Int} {n : Nat} {sil pat : Int} : standB me act term cyc n sil pat = true ↔
    (0 ≤ me ∧ me ≤ 1 ∧ 0 ≤ term ∧ term ≤ 1000000 ∧ 0 ≤ cyc ∧ cyc ≤ 999999999 ∧ n ≤ 20000) ∧ 1 ≤ pat ∧ pat ≤ 1000 ∧ 0 ≤ sil ∧ sil ≤ pat - 1 ∧ (act = true → sil ≤ 0) := by
  simp only [standB, Bool.and_eq_true, toldB_iff, inB, decide_eq_true_eq, Bool.not_eq_true', Bool.and_eq_false_iff, decide_eq_false_iff_not]
  cases act <;> simp <;> omega
end Go.Proofs.Ytlccpnloankloaa.Pair
