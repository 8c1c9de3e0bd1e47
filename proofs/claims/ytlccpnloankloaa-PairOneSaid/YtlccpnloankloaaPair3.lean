/-
  Contracts of pair's Start and of pair's with, for each of its four steps. Conditions: the images read, and are within the reach.
-/
import Derived.Test.YtlccpnloankloaaPair2
import Derived.Test.YtlccpnloankloaaClone
namespace Go.Proofs.Ytlccpnloankloaa.Pair
open Go.RowKit Go.Proofs.Ytlccpnloankloaa.W Go.Proofs.Ytlccpnloankloaa.Ints

def SD.set {α β : Type} (s : SD α) (v : β) : SD β := ⟨s.me, s.act, s.term, s.cyc, v, s.sil, s.pat⟩
/-- what comes back: the side, its image a row of the callee's own -/
def FreshS (w w' : World) (e : Ending) (F : SD (List Int) × Int) : Prop :=
  ∃ A c, e = .returned (.tuple #[(F.1.set (Value.slice A F.1.img.length c)).val, .int .i64 F.2]) ∧ w'.ownsRow w.heap.size 3 1 (.slice A F.1.img.length c) F.1.img.length (ints F.1.img) ∧ Below w.heap.size w w'

theorem after3g {w w' : World} {t1 t2 t3 : TypeId} {c1 c2 c3 : Array Value}
    (h : (((w.alloc (.cells c1 t1)).alloc (.cells c2 t2)).alloc (.cells c3 t3)).grownBy w' (some (w.heap.size + 2))) :
    Blk w' w.heap.size t1 c1 ∧ Blk w' (w.heap.size + 1) t2 c2 ∧ Below w.heap.size w w' ∧ w.heap.size < w'.heap.size ∧ w.heap.size + 1 < w'.heap.size ∧ w.heap.size + 2 < w'.heap.size := by
  have hs := h.size
  simp at hs
  have k2 := ((Blk.new (w.alloc (.cells c1 t1)) t2 c2).alloc (.cells c3 t3)).grown h (by simp)
  have k1 := (((Blk.new w t1 c1).alloc (.cells c2 t2)).alloc (.cells c3 t3)).grown h (by simp)
  simp only [World.size_alloc] at k2
  refine ⟨k1, k2, ?_, by omega, by omega, by omega⟩
  exact (((below_alloc _).alloc (by simp) _).alloc (by simp; omega) _).trans (Grow.below h (by simp; omega) (fun g hg => by injection hg with hg; omega))

theorem own_lift {w : World} {v : Value} {n b b' : Nat} {xs : List Value} (h : w.ownsRow b 3 1 v n xs) (hb : b' ≤ b) : w.ownsRow b' 3 1 v n xs := own_weaken h hb

set_option maxHeartbeats 1600000 in
theorem Start_any (me pat : Int) (A : Option Addr) (n c : Nat) (zs : List Int) (w : World) (hr : Rd w 1 A n (ints zs)) (hn : n * 8 ≤ 140737488351232) :
    Calls Try.prog 13 #[.int .i64 me, .int .i64 pat, .slice A n c] w fun e w' => FreshS w w' e (sidedF [] me pat zs n) := by
  have HR := Lib.hid hr
  clear hr
  have hl : (zs.length = n) := rd_len HR.out
  have HL := Lib.hid hl
  clear hl
  go_enter Try.func13, Try.ntmps13
  go_wp2_with (first | (go_at_call 34; refine (in_any _ _ _ _).mono ?_; rintro e w' ⟨rfl, rfl⟩) | (go_at_call 35; refine (Clone_any A n c zs _ (HR.out.alloc _) hn).mono ?_; rintro e w' ⟨A1, d1, rfl, ho, hb⟩; obtain ⟨k1, hb, hz1⟩ := call1 hb; have c1 := k1.cell; have f1 := k1.frozen; clear k1; have HB := Lib.hid hb; have HO := Lib.hid ho; clear hb ho))
  all_goals have hif : (0 ≤ me ∧ me ≤ 1 ∧ 1 ≤ pat ∧ pat ≤ 1000) ↔ (inB me 0 1 = true ∧ inB pat 1 1000 = true) := by simp only [inB_iff]; omega
  all_goals have HI := Lib.hid hif
  all_goals clear hif
  · rw [show sidedF [] me pat zs n = (zeroS [], 3) from by unfold sidedF; rw [if_neg (by rw [HI.out]; simp_all)]]
    refine bodyPost_ret (v := .tuple #[((zeroS ([] : List Int)).set nilS).val, .int .i64 3]) ?_ rfl ?_
    · simp [results, Try.results13, go_sem, zeroS, SD.set, SD.val]
    · refine ⟨none, 0, rfl, World.ownsRow_nil _ _ _ _, ?_⟩
      repeat' (first | (with_reducible exact HB.out) | (with_reducible exact Below.refl _ _) | (with_reducible refine Below.setCell ?_ ?_ _; rotate_left; (simp <;> omega)) | (with_reducible refine Below.alloc ?_ ?_ _; rotate_left; (simp <;> omega)))
  · rw [show sidedF [] me pat zs n = (zeroS [], 4) from by unfold sidedF; rw [if_pos (by rw [HI.out]; simp_all), if_neg (by omega)]]
    refine bodyPost_ret (v := .tuple #[((zeroS ([] : List Int)).set nilS).val, .int .i64 4]) ?_ rfl ?_
    · simp [results, Try.results13, go_sem, zeroS, SD.set, SD.val]
    · refine ⟨none, 0, rfl, World.ownsRow_nil _ _ _ _, ?_⟩
      repeat' (first | (with_reducible exact HB.out) | (with_reducible exact Below.refl _ _) | (with_reducible refine Below.setCell ?_ ?_ _; rotate_left; (simp <;> omega)) | (with_reducible refine Below.alloc ?_ ?_ _; rotate_left; (simp <;> omega)))
  · rw [show sidedF [] me pat zs n = (⟨me, me == 0, 0, 0, zs, 0, pat⟩, 0) from by unfold sidedF; rw [if_pos (by rw [HI.out]; simp_all), if_pos (by omega)]]
    refine bodyPost_ret (v := .tuple #[((⟨me, me == 0, 0, 0, zs, 0, pat⟩ : SD (List Int)).set (Value.slice A1 n d1)).val, .int .i64 0]) ?_ rfl ?_
    · simp [results, Try.results13, go_sem, SD.set, SD.val, c1]
    · have hL := HL.out
      subst hL
      refine ⟨A1, d1, rfl, ?_, ?_⟩
      · refine own_lift (b := w.heap.size + 1) ?_ (by omega)
        repeat' (first | (with_reducible exact own_lift HO.out (by simp)) | (with_reducible refine ownsRow_setCell_below ?_ ?_ _; rotate_left; (simp <;> omega)))
      · repeat' (first | (with_reducible exact HB.out) | (with_reducible exact Below.refl _ _) | (with_reducible refine Below.setCell ?_ ?_ _; rotate_left; (simp <;> omega)) | (with_reducible refine Below.alloc ?_ ?_ _; rotate_left; (simp <;> omega)))
  · rw [show sidedF [] me pat zs n = (zeroS [], 3) from by unfold sidedF; rw [if_neg (by rw [HI.out]; simp_all)]]
    refine bodyPost_ret (v := .tuple #[((zeroS ([] : List Int)).set nilS).val, .int .i64 3]) ?_ rfl ?_
    · simp [results, Try.results13, go_sem, zeroS, SD.set, SD.val]
    · refine ⟨none, 0, rfl, World.ownsRow_nil _ _ _ _, ?_⟩
      repeat' (first | (with_reducible exact HB.out) | (with_reducible exact Below.refl _ _) | (with_reducible refine Below.setCell ?_ ?_ _; rotate_left; (simp <;> omega)) | (with_reducible refine Below.alloc ?_ ?_ _; rotate_left; (simp <;> omega)))
end Go.Proofs.Ytlccpnloankloaa.Pair
