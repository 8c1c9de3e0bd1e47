/-
  The keep-statements' after and summed. Conditions: the image reads as two numbers within bounds.
-/
import Derived.Test.YtlccpnloankloaaKeep1
import Derived.Test.YtlccpnloankloaaPairM
import Derived.BigRegion
namespace Go.Proofs.Ytlccpnloankloaa.Pair
open Go.RowKit Go.Proofs.Ytlccpnloankloaa.W Go.Proofs.Ytlccpnloankloaa.Ints Go.Proofs.Ytlccpnloankloaa.Keep

/-- what so many cycles make -/
def sm (n : Nat) : List Int := [(n : Int), (n : Int) * ((n : Int) + 1) / 2]
theorem rd_two (w : World) (t : TypeId) (x y : Int) : Rd (w.alloc (.cells #[.int .i64 x, .int .i64 y] t)) 1 (some ⟨w.heap.size, 0, none⟩) 2 (ints [x, y]) := by
  refine ⟨by simp, fun _ => ⟨_, _, rfl, fun j u hu => ?_⟩⟩
  rw [(Blk.new w t #[.int .i64 x, .int .i64 y]).cell]
  match j, hu with
  | 0, hu => simpa using hu
  | 1, hu => simpa using hu
  | k + 2, hu => simp at hu
theorem tri_bd {n : Nat} (h : n ≤ 1000) : 0 ≤ (n : Int) * ((n : Int) + 1) ∧ (n : Int) * ((n : Int) + 1) ≤ 1001000 := by
  refine ⟨Int.mul_nonneg (by omega) (by omega), ?_⟩
  have h1 : (n : Int) * ((n : Int) + 1) ≤ 1000 * ((n : Int) + 1) := Int.mul_le_mul_of_nonneg_right (by omega) (by omega)
  omega
theorem tri_succ (n : Nat) : ((n : Int) + 1) * ((n : Int) + 1 + 1) / 2 = (n : Int) * ((n : Int) + 1) / 2 + (n : Int) + 1 := by
  have e : ((n : Int) + 1) * ((n : Int) + 1 + 1) = (n : Int) * ((n : Int) + 1) + 2 * ((n : Int) + 1) := by
    rw [Int.mul_add, Int.mul_add, Int.add_mul, Int.mul_one, Int.mul_add]
    omega
  rw [e]
  omega
theorem sm_succ (n : Nat) : sm (n + 1) = [(n : Int) + 1, (n : Int) * ((n : Int) + 1) / 2 + (n : Int) + 1] := by
  simp only [sm]
  have := tri_succ n
  simp only [Int.natCast_add, Int.natCast_one] at this ⊢
  rw [this]

theorem summed_any (n : Nat) (w : World) (hn : n ≤ 1000) :
    Calls Try.prog 29 #[.int .i64 n] w fun e w' => e = .returned (.slice (some ⟨w.heap.size, 0, none⟩) 2 2) ∧ Rd w' 1 (some ⟨w.heap.size, 0, none⟩) 2 (ints (sm n)) ∧ Below w.heap.size w w' ∧ w'.heap.size = w.heap.size + 1 := by
  obtain ⟨h0, h1⟩ := tri_bd hn
  have hq : ((n : Int) * ((n : Int) + 1)).tdiv 2 = (n : Int) * ((n : Int) + 1) / 2 := Int.tdiv_eq_ediv_of_nonneg h0
  have hw : wrap64 ((n : Int) * ((n : Int) + 1)) = (n : Int) * ((n : Int) + 1) := by simp [wrap64]; omega
  have hw2 : IntKind.i64.wrap ((n : Int) * ((n : Int) + 1)) = (n : Int) * ((n : Int) + 1) := by rw [IntKind.wrap_i64]; omega
  go_enter Try.func29, Try.ntmps29
  go_wp2
  go_ret
  exact ⟨rfl, rd_two w _ _ _, below_alloc _, World.size_alloc _ _⟩

theorem after_any (A : Option Addr) (c : Nat) (x y : Int) (w : World) (hr : Rd w 1 A 2 (ints [x, y])) (hx : 0 ≤ x) (hx' : x ≤ 1000000) (hy : 0 ≤ y) (hy' : y ≤ 1000000000) :
    Calls Try.prog 33 #[.slice A 2 c] w fun e w' => ∃ B d, e = .returned (.slice B 2 d) ∧ Rd w' 1 B 2 (ints [x + 1, y + x + 1]) ∧ Below w.heap.size w w' := by
  obtain ⟨b, o, rfl, hc⟩ := rd_at hr (by omega)
  have h1 := hc 0 (by omega)
  have h2 := hc 1 (by omega)
  simp at h1 h2
  clear hc hr
  go_enter Try.func33, Try.ntmps33
  go_wp2
  go_region
  go_wp2
  go_ret
  exact ⟨_, _, rfl, (rd_two w _ _ _).drew, below_drewN (below_alloc _) 1⟩
theorem summed0_any (w : World) :
    Calls Try.prog 29 #[.int .i64 0] w fun e w' => e = .returned (.slice (some ⟨w.heap.size, 0, none⟩) 2 2) ∧ Rd w' 1 (some ⟨w.heap.size, 0, none⟩) 2 (ints (sm 0)) ∧ Below w.heap.size w w' ∧ w'.heap.size = w.heap.size + 1 := summed_any 0 w (by omega)
end Go.Proofs.Ytlccpnloankloaa.Pair
