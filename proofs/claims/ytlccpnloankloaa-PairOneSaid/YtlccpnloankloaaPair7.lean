/-
  The contract of the step that pair's Hear hands to with. Conditions: the captured cells are there.
-/
import Derived.Test.YtlccpnloankloaaPair5
namespace Go.Proofs.Ytlccpnloankloaa.Pair
open Go.RowKit Go.Proofs.Ytlccpnloankloaa.W Go.Proofs.Ytlccpnloankloaa.Ints

def heardS {α : Type} (s : SD α) (bf bt bc : Int) (x : α) (m : Nat) : SD α × Int :=
  if toldB bf bt bc m then (if bf = s.me then (s, 6) else if bt < s.term then (s, 18) else if oldP s bt bc then (s, 18) else (⟨s.me, false, bt, bc, x, 0, s.pat⟩, 0)) else (s, 3)
set_option maxHeartbeats 3200000 in
theorem step_Hear (w : World) (q : Nat) (me : Int) (act : Bool) (term cyc : Int) (A : Option Addr) (n c : Nat) (sil pat : Int) (bf bt bc : Int) (B : Option Addr) (m d : Nat)
    (hq : Blk w q 33 #[.int .i64 bf, .int .i64 bt, .int .i64 bc, .slice B m d]) :
    StepHear q w ⟨me, act, term, cyc, .slice A n c, sil, pat⟩ (heardS ⟨me, act, term, cyc, .slice A n c, sil, pat⟩ bf bt bc (.slice B m d) m) := by
  intro W b hb hB hk
  have hql := hq.lt
  have hqW := hq.below hb
  have c2 := hqW.cell
  have c1 := hk.cell
  have f1 := hk.frozen
  have HK := Lib.hid hk
  have hne : b ≠ q := by omega
  clear hk hb hq hqW
  cases ht : toldB bf bt bc m
  · have HT := Lib.hid ht
    rw [show heardS (⟨me, act, term, cyc, .slice A n c, sil, pat⟩ : SD Value) bf bt bc (.slice B m d) m = (⟨me, act, term, cyc, .slice A n c, sil, pat⟩, 3) from by simp [heardS, ht]]
    clear ht
    go_enter Try.func43, Try.ntmps43
    go_wp2_with (go_at_call 44; refine (told_any _ _ _ _ _ _ _).mono ?_; rintro e w' ⟨rfl, rfl⟩; rw [HT.out])
    go_ret
    exact ⟨rfl, HK.out, Grow.refl _ _⟩
  · have HT := Lib.hid ht
    by_cases h1 : bf = me
    · subst h1
      rw [show heardS (⟨bf, act, term, cyc, .slice A n c, sil, pat⟩ : SD Value) bf bt bc (.slice B m d) m = (⟨bf, act, term, cyc, .slice A n c, sil, pat⟩, 6) from by simp [heardS, ht]]
      clear ht
      go_enter Try.func43, Try.ntmps43
      go_wp2_with (go_at_call 44; refine (told_any _ _ _ _ _ _ _).mono ?_; rintro e w' ⟨rfl, rfl⟩; rw [HT.out])
      go_quiet (fail)
      go_wp2
      go_ret
      exact ⟨rfl, HK.out.drewN _, grow_drewN (Grow.refl _ _) _⟩
    · have h1' : (bf == me) = false := by simp [h1]
      by_cases h2 : bt < term
      · rw [show heardS (⟨me, act, term, cyc, .slice A n c, sil, pat⟩ : SD Value) bf bt bc (.slice B m d) m = (⟨me, act, term, cyc, .slice A n c, sil, pat⟩, 18) from by simp [heardS, ht, h1, h2]]
        clear ht h1
        go_enter Try.func43, Try.ntmps43
        go_wp2_with (go_at_call 44; refine (told_any _ _ _ _ _ _ _).mono ?_; rintro e w' ⟨rfl, rfl⟩; rw [HT.out])
        go_quiet (fail)
        go_wp2
        go_quiet (fail)
        go_wp2
        go_ret
        exact ⟨rfl, blk_drewN (blk_drewN HK.out), grow_drewN (grow_drewN (Grow.refl _ _) _) _⟩
      · have hold : (oldP (⟨me, act, term, cyc, .slice A n c, sil, pat⟩ : SD Value) bt bc ∧ (bt = term ∧ (act = true ∧ me = 0 ∨ act = false ∧ bc < cyc))) ∨
            (¬ oldP (⟨me, act, term, cyc, .slice A n c, sil, pat⟩ : SD Value) bt bc ∧ (((bt == term) = false) ∨ bt = term ∧ (act = true ∧ (me == 0) = false ∨ act = false ∧ ¬ bc < cyc))) := by
          unfold oldP
          simp only [beq_eq_false_iff_ne]
          by_cases e : bt = term <;> cases act <;> simp [e] <;> omega
        have h2' : term ≤ bt := by omega
        rcases hold with ⟨ho, rfl, hx⟩ | ⟨ho, hx⟩
        · rw [show heardS (⟨me, act, bt, cyc, .slice A n c, sil, pat⟩ : SD Value) bf bt bc (.slice B m d) m = (⟨me, act, bt, cyc, .slice A n c, sil, pat⟩, 18) from by simp [heardS, ht, h1, h2, ho]]
          clear ht h1 ho h2
          rcases hx with ⟨rfl, rfl⟩ | ⟨rfl, hx⟩
          all_goals go_enter Try.func43, Try.ntmps43
          all_goals go_wp2_with (go_at_call 44; refine (told_any _ _ _ _ _ _ _).mono ?_; rintro e w' ⟨rfl, rfl⟩; rw [HT.out])
          all_goals go_quiet (fail)
          all_goals go_wp2
          all_goals go_quiet (fail)
          all_goals go_wp2
          all_goals go_quiet (fail)
          all_goals go_wp2
          all_goals go_ret
          all_goals exact ⟨rfl, blk_drewN (blk_drewN (blk_drewN HK.out)), grow_drewN (grow_drewN (grow_drewN (Grow.refl _ _) _) _) _⟩
        · rw [show heardS (⟨me, act, term, cyc, .slice A n c, sil, pat⟩ : SD Value) bf bt bc (.slice B m d) m = (⟨me, false, bt, bc, .slice B m d, 0, pat⟩, 0) from by simp [heardS, ht, h1, h2, ho]]
          clear ht h1 ho h2
          rcases hx with hx | ⟨rfl, ⟨rfl, hx⟩ | ⟨rfl, hx⟩⟩
          all_goals go_enter Try.func43, Try.ntmps43
          all_goals go_wp2_with (go_at_call 44; refine (told_any _ _ _ _ _ _ _).mono ?_; rintro e w' ⟨rfl, rfl⟩; rw [HT.out])
          all_goals go_quiet (fail)
          all_goals go_wp2
          all_goals go_quiet (fail)
          all_goals go_wp2
          all_goals go_quiet (fail)
          all_goals go_wp2
          all_goals go_region
          all_goals go_wp2
          all_goals go_ret
          all_goals refine ⟨rfl, ?_, ?_⟩
          all_goals first
            | exact blk_put (blk_put (blk_put (blk_put (blk_put (blk_drewN HK.out) rfl) rfl) rfl) rfl) (by simp)
            | exact grow_at (grow_at (grow_at (grow_at (grow_at (grow_drewN (Grow.refl _ _) _)))))
end Go.Proofs.Ytlccpnloankloaa.Pair
