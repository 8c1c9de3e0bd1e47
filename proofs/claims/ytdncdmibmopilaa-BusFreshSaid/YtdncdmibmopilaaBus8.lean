/-
  Which links may be: the reference's CouldBe and bus's open. Conditions: the words read, within the reach.
-/
import Derived.Test.YtdncdmibmopilaaBus7
import Derived.Outline
namespace Go.Proofs.Ytdncdmibmopilaa.Bus
open Go.RowKit Go.Proofs.Ytdncdmibmopilaa.W Go.Proofs.Ytdncdmibmopilaa.Ints

theorem Equal_any (A B : Option Addr) (n m c d : Nat) (xs ys : List Int) (w : World) (hA : Rd w 1 A n (ints xs)) (hB : Rd w 1 B m (ints ys)) (hm : n ≤ maxLen) :
    Calls Try.prog 48 #[.slice A n c, .slice B m d] w fun e w' => e = .returned (.bool (decide (xs = ys))) ∧ ∃ k, w' = w.drewN k := by
  by_cases h : n = m
  · subst h
    exact Equal_eq A B n c d xs ys w hA hB hm
  · have hb : ((n : Int) != (m : Int)) = true := by simp; omega
    have hd : false = decide (xs = ys) := by
      symm
      apply decide_eq_false
      intro he
      exact h (by rw [← rd_len hA, ← rd_len hB, he])
    have HD := Lib.hid hd
    clear hA hB hd h
    go_enter Try.func48, Try.ntmps48
    go_wp2
    go_ret
    exact ⟨ret_bool HD.out, 0, rfl⟩

/-- which link may be -/
def couldB (st wt : Int) (xs ys : List Int) (seq age : Int) (fresh : Bool) : Bool :=
  ((linkedF st wt xs).2 == 0) && ((speltE ys == 0) && ((ys.length == xs.length) && (decide (0 ≤ seq) && (decide (seq ≤ 255) && (decide (0 ≤ age) && (decide (age < wt) && (fresh || ((age == 0) && decide (ys = xs)))))))))

theorem fresh_fault {w w' : World} {e : Ending} {F : LD × Int} (h : FreshL w w' e F) :
    ∃ A c B d, e = .returned (.tuple #[linkV F.1.st F.1.wt (.slice A F.1.safe.length c) (.slice B F.1.words.length d) F.1.seq F.1.age F.1.fresh, .int .i64 F.2]) ∧ Below w.heap.size w w' := by
  obtain ⟨A, c, B, d, he, l1, h1, l2, h2, _, _, _, hb⟩ := h
  exact ⟨A, c, B, d, he, hb⟩

/-- the ways on which a link may not be, in the walk's own words -/
def NoWay (st wt : Int) (xs ys : List Int) (n m : Nat) (seq age : Int) : Prop :=
  ((linkedF st wt xs).2 != 0) = true ∨ (((linkedF st wt xs).2 != 0) = false ∧ (((speltE ys != 0) = true) ∨ ((speltE ys != 0) = false ∧ (((m : Int) != (n : Int)) = true ∨ (((m : Int) != (n : Int)) = false ∧
      (seq < 0 ∨ (0 ≤ seq ∧ (255 < seq ∨ (seq ≤ 255 ∧ (age < 0 ∨ (0 ≤ age ∧ wt ≤ age)))))))))))

theorem no_way {st wt : Int} {xs ys : List Int} {n m : Nat} {seq age : Int} {fresh : Bool} (hx : xs.length = n) (hy : ys.length = m)
    (h : ¬ ((linkedF st wt xs).2 = 0 ∧ speltE ys = 0 ∧ m = n ∧ 0 ≤ seq ∧ seq ≤ 255 ∧ 0 ≤ age ∧ age < wt)) : NoWay st wt xs ys n m seq age ∧ couldB st wt xs ys seq age fresh = false := by
  constructor
  · unfold NoWay
    simp only [bne_iff_ne, ne_eq, bne_eq_false_iff_eq]
    omega
  · by_cases h0 : couldB st wt xs ys seq age fresh = true
    · exfalso
      apply h
      simp [couldB, hx, hy] at h0
      omega
    · simpa using h0

set_option maxHeartbeats 3200000 in
theorem CouldBe_no (st wt : Int) (A : Option Addr) (n c : Nat) (B : Option Addr) (m d : Nat) (seq age : Int) (fresh : Bool) (xs ys : List Int) (w : World)
    (hx : Rd w 1 A n (ints xs)) (hn : n * 8 ≤ 140737488351232) (hy : Rd w 1 B m (ints ys)) (hm : m * 8 ≤ 140737488351232) (hno : NoWay st wt xs ys n m seq age) :
    Calls Try.prog 42 #[linkV st wt (.slice A n c) (.slice B m d) seq age fresh] w fun e w' => e = .returned (.bool false) ∧ Below w.heap.size w w' := by
  have HX := Lib.hid hx
  have HY := Lib.hid hy
  clear hx hy
  unfold NoWay at hno
  generalize hF : linkedF st wt xs = F at hno
  generalize hE : speltE ys = E at hno
  have HF := Lib.hid hF
  have HE := Lib.hid hE
  clear hF hE
  rcases hno with h1 | ⟨h1, h2 | ⟨h2, h3 | ⟨h3, h4 | ⟨h4, h5 | ⟨h5, h6 | ⟨h6, h7⟩⟩⟩⟩⟩⟩
  all_goals go_enter Try.func42, Try.ntmps42
  all_goals go_wp2_with fail
  all_goals refine (Linked_any st wt A n c xs _ (HX.out.alloc _) hn).mono ?_
  all_goals intro e w1 hf
  all_goals rw [HF.out] at hf
  all_goals obtain ⟨A1, e1, A2, e2, rfl, hb⟩ := fresh_fault hf
  all_goals clear hf
  all_goals obtain ⟨k1, hb, z1⟩ := call1 hb
  all_goals have c1 := k1.cell
  all_goals have B1 := Lib.hid hb
  all_goals clear k1 hb
  all_goals go_wp2_with (go_at_call 30; refine (spelt_any B m d ys _ ((HY.out.below B1.out).alloc _) (by unfold maxLen; omega)).mono ?_; rintro e w' ⟨rfl, rfl⟩; rw [HE.out])
  all_goals go_ret
  all_goals exact ⟨rfl, B1.out.alloc (by omega) _⟩
end Go.Proofs.Ytdncdmibmopilaa.Bus
