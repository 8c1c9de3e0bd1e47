/-
  pair's Send: what it answers; the walk of the law PairSend. Conditions: the arguments read, within the form's own reach.
-/
import Derived.Test.YtlccpnloankloaaPairL
namespace Go.Proofs.Ytlccpnloankloaa.Pair
open Go.RowKit Go.Proofs.Ytlccpnloankloaa.W Go.Proofs.Ytlccpnloankloaa.Ints

def sendS {α : Type} (s : SD α) (n : Nat) : SD α × Int := if s.ok n then (s, if s.act then 0 else 18) else (zeroS (s.img), 15)

/-- with at Send's step: the side as it was, or nothing -/
theorem withAll_Send (me : Int) (act : Bool) (term cyc : Int) (A : Option Addr) (n c : Nat) (sil pat : Int) (zs : List Int) (w : World) (hr : Rd w 1 A n (ints zs)) (hn : n * 8 ≤ 140737488351232) :
    Calls Try.prog 38 #[sideV me act term cyc (.slice A n c) sil pat, .func (.func 39) #[] #[]] w fun e w' =>
      FreshS w w' e (if standB me act term cyc n sil pat then (⟨me, act, term, cyc, zs, sil, pat⟩, if act then 0 else 18) else (zeroS [], 15)) := by
  cases hok : standB me act term cyc n sil pat
  · simp only [Bool.false_eq_true, if_false]
    exact with_Send_bad me act term cyc A n c sil pat w hok
  · simp only [if_true]
    have hs := step_Send w me act term cyc A n c sil pat
    cases act
    · simp only [Bool.false_eq_true, if_false] at hs ⊢
      exact with_Send_err me false term cyc A n c sil pat 18 zs w hok hr hn (by decide) hs
    · simp only [if_true] at hs ⊢
      exact with_Send_ok me true term cyc A n c sil pat me true term cyc A n c sil pat zs w hok hr hn hs

/-- what comes back of Send: a beat with an image of its own -/
def FreshB (w w' : World) (e : Ending) (F : BD (List Int) × Int) : Prop :=
  ∃ A c, e = .returned (.tuple #[beatV F.1.me F.1.term F.1.cyc (.slice A F.1.img.length c), .int .i64 F.2]) ∧ w'.ownsRow w.heap.size 3 1 (.slice A F.1.img.length c) F.1.img.length (ints F.1.img) ∧ Below w.heap.size w w'

set_option maxHeartbeats 1600000 in
theorem Send_any (me : Int) (act : Bool) (term cyc : Int) (A : Option Addr) (n c : Nat) (sil pat : Int) (zs : List Int) (w : World) (hr : Rd w 1 A n (ints zs)) (hn : n * 8 ≤ 140737488351232) :
    Calls Try.prog 16 #[sideV me act term cyc (.slice A n c) sil pat] w fun e w' => FreshB w w' e (sentF [] ⟨me, act, term, cyc, zs, sil, pat⟩ n) := by
  have hl := rd_len hr
  have HL := Lib.hid hl
  have HR := Lib.hid hr
  clear hl hr
  have key : (standB me act term cyc n sil pat = false ∧ sentF [] (⟨me, act, term, cyc, zs, sil, pat⟩ : SD (List Int)) n = (zeroB [], 15)) ∨
      (standB me act term cyc n sil pat = true ∧ act = false ∧ sentF [] (⟨me, act, term, cyc, zs, sil, pat⟩ : SD (List Int)) n = (zeroB [], 18)) ∨
      (standB me act term cyc n sil pat = true ∧ act = true ∧ sentF [] (⟨me, act, term, cyc, zs, sil, pat⟩ : SD (List Int)) n = (⟨me, term, cyc, zs⟩, 0)) := by
    cases h : standB me act term cyc n sil pat <;> cases act <;> simp [sentF, SD.ok, h]
  rcases key with ⟨hok, hf⟩ | ⟨hok, rfl, hf⟩ | ⟨hok, rfl, hf⟩
  all_goals rw [hf]
  all_goals have HK := Lib.hid hok
  all_goals clear hf hok
  all_goals go_enter Try.func16, Try.ntmps16
  all_goals go_wp2_with fail
  all_goals refine (withAll_Send me _ term cyc A n c sil pat zs _ ((HR.out.alloc _).alloc _) hn).mono ?_
  all_goals intro e w' hf
  all_goals rw [HK.out] at hf
  all_goals simp only [Bool.false_eq_true, if_false, if_true] at hf
  all_goals obtain ⟨A1, d1, rfl, ho, hb⟩ := hf
  all_goals simp only [SD.set, SD.val, zeroS]
  all_goals obtain ⟨k1, k2, hb, z1, z2⟩ := call2 hb
  all_goals have c2 := k2.cell
  all_goals have f2 := k2.frozen
  all_goals have HB := Lib.hid hb
  all_goals have HO := Lib.hid (own_lift (b' := w.heap.size + 2) ho (by simp))
  all_goals clear k1 k2 hb ho
  all_goals go_wp2
  · refine bodyPost_ret (v := .tuple #[beatV 0 0 0 (.slice none 0 0), .int .i64 15]) ?_ rfl ?_
    · simp [results, Try.results16, go_sem, c2, z2]
    · refine ⟨none, 0, rfl, World.ownsRow_nil _ _ _ _, ?_⟩
      repeat' (first | (with_reducible exact HB.out) | (with_reducible exact Below.refl _ _) | (with_reducible refine Below.setCell ?_ ?_ _; rotate_left; (simp <;> omega)) | (with_reducible refine Below.alloc ?_ ?_ _; rotate_left; (simp <;> omega)))
  · refine bodyPost_ret (v := .tuple #[beatV 0 0 0 (.slice none 0 0), .int .i64 18]) ?_ rfl ?_
    · simp [results, Try.results16, go_sem, c2, z2]
    · refine ⟨none, 0, rfl, World.ownsRow_nil _ _ _ _, ?_⟩
      repeat' (first | (with_reducible exact HB.out) | (with_reducible exact Below.refl _ _) | (with_reducible refine Below.setCell ?_ ?_ _; rotate_left; (simp <;> omega)) | (with_reducible refine Below.alloc ?_ ?_ _; rotate_left; (simp <;> omega)))
  · refine bodyPost_ret (v := .tuple #[beatV me term cyc (.slice A1 zs.length d1), .int .i64 0]) ?_ rfl ?_
    · simp [results, Try.results16, go_sem, c2, z2]
    · refine ⟨A1, d1, rfl, ?_, ?_⟩
      · refine own_lift (b := w.heap.size + 2) ?_ (by omega)
        repeat' (first | (with_reducible exact HO.out) | (with_reducible refine ownsRow_setCell_below ?_ ?_ _; rotate_left; (simp <;> omega)) | (with_reducible refine World.ownsRow.alloc ?_ _))
      · repeat' (first | (with_reducible exact HB.out) | (with_reducible exact Below.refl _ _) | (with_reducible refine Below.setCell ?_ ?_ _; rotate_left; (simp <;> omega)) | (with_reducible refine Below.alloc ?_ ?_ _; rotate_left; (simp <;> omega)))
end Go.Proofs.Ytlccpnloankloaa.Pair
