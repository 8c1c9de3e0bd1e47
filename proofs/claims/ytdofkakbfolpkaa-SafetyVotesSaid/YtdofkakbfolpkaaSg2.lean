/-
  Whether a trip can stand. Conditions: the rows read, within the reach; the guard's delay is within its bounds.
-/
import Derived.Test.YtdofkakbfolpkaaSg1
namespace Go.Proofs.Ytdofkakbfolpkaa.Sf
open Go.RowKit Go.Proofs.Ytdofkakbfolpkaa.W Go.Proofs.Ytdofkakbfolpkaa.Ints Go.Proofs.Ytdofkakbfolpkaa.Pop

theorem stands_early (m d : Int) (Q : Option Addr) (n c : Nat) (T : TR) (A : Option Addr) (e : Nat) (w : World) (hl : n ≤ 16)
    (h : T.held.length ≠ n ∨ (T.held.length = n ∧ T.down = false ∧ 0 ≤ T.first) ∨ (T.held.length = n ∧ T.down = true ∧ T.first < 0) ∨ (T.held.length = n ∧ T.down = false ∧ T.first < -1) ∨ (T.held.length = n ∧ T.down = true ∧ (n : Int) ≤ T.first)) :
    Calls Try.prog 23 #[guardV m d Q n c, tripV T.down T.first A T.held.length e T.key] w fun x w' => x = .returned (.bool false) ∧ Below w.heap.size w w' := by
  obtain ⟨down, first, hs, key⟩ := T
  simp only at h ⊢
  generalize hs.length = l at *
  rcases h with h | ⟨rfl, rfl, h⟩ | ⟨rfl, rfl, h⟩ | ⟨rfl, rfl, h⟩ | ⟨rfl, rfl, h⟩
  · have h' : ((l : Int) != (n : Int)) = true := by simp; omega
    go_enter Try.func23, Try.ntmps23
    go_wp2
    go_ret
    exact ⟨rfl, below2 _ _ _⟩
  · have h' : decide (0 ≤ first) = true := by simp; omega
    go_enter Try.func23, Try.ntmps23
    go_wp2
    go_ret
    exact ⟨rfl, below2 _ _ _⟩
  · have h' : decide (0 ≤ first) = false := by simp; omega
    go_enter Try.func23, Try.ntmps23
    go_wp2
    go_ret
    exact ⟨rfl, below2 _ _ _⟩
  · have h' : decide (0 ≤ first) = false := by simp; omega
    go_enter Try.func23, Try.ntmps23
    go_wp2
    go_ret
    exact ⟨rfl, below2 _ _ _⟩
  · have h' : decide (0 ≤ first) = true := by simp; omega
    have h2' : -1 ≤ first := by omega
    go_enter Try.func23, Try.ntmps23
    go_wp2
    go_ret
    exact ⟨rfl, below2 _ _ _⟩

theorem stands_any (m d : Int) (Q : Option Addr) (n c : Nat) (T : TR) (A : Option Addr) (e : Nat) (w : World) (hr : Rd w 1 A T.held.length (ints T.held)) (hl8 : T.held.length * 8 ≤ 140737488351232) (hl : n ≤ 16) (hd0 : 0 ≤ d) (hd1 : d ≤ 1000) :
    Calls Try.prog 23 #[guardV m d Q n c, tripV T.down T.first A T.held.length e T.key] w fun x w' => x = .returned (.bool (standsB d n T)) ∧ Below w.heap.size w w' := by
  by_cases h : T.held.length ≠ n ∨ (T.held.length = n ∧ T.down = false ∧ 0 ≤ T.first) ∨ (T.held.length = n ∧ T.down = true ∧ T.first < 0) ∨ (T.held.length = n ∧ T.down = false ∧ T.first < -1) ∨ (T.held.length = n ∧ T.down = true ∧ (n : Int) ≤ T.first)
  · have hb : standsB d n T = false := by
      unfold standsB
      rcases h with h | ⟨h1, h2, h3⟩ | ⟨h1, h2, h3⟩ | ⟨h1, h2, h3⟩ | ⟨h1, h2, h3⟩ <;> (rw [Bool.eq_false_iff]; simp; intros; simp_all <;> omega)
    rw [hb]
    exact stands_early m d Q n c T A e w hl h
  · have hln : T.held.length = n := by
      by_cases h1 : T.held.length = n
      · exact h1
      · exact absurd (.inl h1) h
    have hw : (T.down = false ∧ T.first = -1) ∨ (T.down = true ∧ 0 ≤ T.first ∧ T.first < n) := by
      cases hd : T.down
      · simp [hln, hd] at h
        exact .inl ⟨rfl, by omega⟩
      · simp [hln, hd] at h
        exact .inr ⟨rfl, by omega, by omega⟩
    have hB : standsB d n T = !(T.held.any (outB 0 (d + 2))) := by
      unfold standsB
      rcases hw with ⟨h1, h2⟩ | ⟨h1, h2, h3⟩
      · simp [hln, h1, h2]
        intro _
        omega
      · simp [hln, h1, h2, h3]
        intro _
        omega
    rw [hB]
    clear h hB
    obtain ⟨down, first, hs, key⟩ := T
    simp only at hw hr hl8 hln ⊢
    rw [hln] at hr hl8 ⊢
    have HR := Lib.hid hr
    clear hr hln
    have hn1 : 0 ≤ n := Nat.zero_le _
    rcases hw with ⟨rfl, rfl⟩ | ⟨rfl, h2, h3⟩
    · have h' : decide ((0 : Int) ≤ -1) = false := by simp
      have h4 : decide ((n : Int) ≤ -1) = false := by simp; omega
      go_enter Try.func23, Try.ntmps23
      go_wp2_with fail
      refine (ContainsFunc_1 w.heap.size 0 (d + 2) A n e hs _ ((HR.out.alloc _).alloc _) hl8 (fun x => stands1_any _ x d _ (by simp) hd0 hd1)).mono ?_
      rintro x w1 ⟨rfl, rfl⟩
      go_wp2
      go_ret
      exact ⟨rfl, below2 _ _ _⟩
    · have h' : decide (0 ≤ first) = true := by simp; omega
      have h5 : decide (first < -1) = false := by simp; omega
      have h4 : decide ((n : Int) ≤ first) = false := by simp; omega
      go_enter Try.func23, Try.ntmps23
      go_wp2_with fail
      refine (ContainsFunc_1 w.heap.size 0 (d + 2) A n e hs _ ((HR.out.alloc _).alloc _) hl8 (fun x => stands1_any _ x d _ (by simp) hd0 hd1)).mono ?_
      rintro x w1 ⟨rfl, rfl⟩
      go_wp2
      go_ret
      exact ⟨rfl, below2 _ _ _⟩
end Go.Proofs.Ytdofkakbfolpkaa.Sf
