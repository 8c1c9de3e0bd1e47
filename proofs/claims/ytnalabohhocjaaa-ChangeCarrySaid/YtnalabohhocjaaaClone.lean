/-
  The contract of slices.Clone at []int: a row of the call's own that reads as its argument. Conditions: the argument reads; its length is within the reach.
-/
import Derived.Test.YtnalabohhocjaaaInts
import Derived.WalkSpells
namespace Go.Proofs.Ytnalabohhocjaaa.Ints
open Go.RowKit Go.Proofs.Ytnalabohhocjaaa.W

set_option maxHeartbeats 400000 in
theorem Clone_any (A : Option Addr) (n c : Nat) (zs : List Int) (w : World) (hr : Rd w 1 A n (ints zs)) (hn : n * 8 ≤ 140737488351232) :
    Calls Try.prog 18 #[.slice A n c] w fun e w' => ∃ A' c', e = .returned (.slice A' n c') ∧ w'.ownsRow w.heap.size 3 1 (.slice A' n c') n (ints zs) ∧ Below w.heap.size w w' := by
  obtain ⟨i0, hi0, hz0, hz1, hz2⟩ := info_parts int_info
  have HR := Lib.hid hr
  clear hr
  have hq := fun (W : World) (a : Option Addr) (l c : Nat) => Lib.run_eql_slice_nil (P := Try.prog) W 23 3 a l c 0 0 Try.underlying23
  rcases A with _ | a
  · have hn0 : n = 0 := by
      rcases Nat.eq_zero_or_pos n with h | h
      · exact h
      · obtain ⟨b, o, h2, _⟩ := HR.out.2 h
        cases h2
    subst hn0
    have hz : zs = [] := by have := rd_len HR.out; exact List.eq_nil_of_length_eq_zero this
    subst hz
    go_enter Try.func18, Try.ntmps18
    go_wp2
    go_ret
    exact ⟨_, _, rfl, World.ownsRow_nil _ _ _ _, Below.refl _ _⟩
  · go_enter Try.func18, Try.ntmps18
    go_wp2_with (at_builtin; refine wpList_append_rd _ rfl (.tmp 5) (.tmp 6) 23 rfl w.heap.size 3 i0 _ 1 8 Try.underlying23 hi0 hz0 hz1 hz2 rfl (by omega) _ 0 [] rfl ⟨by simp, .inr ⟨w.heap.size, 0, #[], rfl, Nat.le_refl _, heap_alloc_new w _, Nat.le_refl _, Nat.zero_le _, rfl, rfl⟩⟩ (some a) n c (ints zs) rfl (HR.out.alloc _) (ones _ _) ?_ ?_ ?_ ?_)
    · unfold maxLen; omega
    · omega
    · simp
    · intro v' w1 ho1 hg1 hat1
      obtain ⟨A', c', rfl, _⟩ := own_shape ho1
      try simp only [Nat.zero_add, List.nil_append] at ho1
      have HO := Lib.hid ho1
      have HG := Lib.hid hg1
      clear ho1 hg1 hat1
      go_wp2
      go_ret
      refine ⟨A', c', by first | rfl | simp, HO.out, ?_⟩
      exact (below_alloc _).grown HG.out (by simp) (fun k hk => by simp [Value.ownBlock] at hk; omega)
end Go.Proofs.Ytnalabohhocjaaa.Ints
