/-
  Rows that lie apart from a box and from a growing row. No conditions: plain lemmas.
-/
import Derived.Test.YtdncdmibmopilaaFsh1
namespace Go.Proofs.Ytdncdmibmopilaa.Bus
open Go.RowKit Go.Proofs.Ytdncdmibmopilaa.W Go.Proofs.Ytdncdmibmopilaa.Ints Go.Proofs.Ytdncdmibmopilaa.Byt Go.Proofs.Ytdncdmibmopilaa.Num Go.Proofs.Ytdncdmibmopilaa.Keep

theorem sl_info : (Try.prog.info? 31).map (fun i => (i.zero, i.size, i.bytes)) = some (some (.slice none 0 0), 1, 24) := by kernel_rfl
/-- it reads, and lies in neither block -/
def Rn (w : World) (g : Nat) (sb : Option Nat) (A : Option Addr) (n : Nat) (xs : List Value) : Prop := Rd w 1 A n xs ∧ ∀ a, A = some a → a.block ≠ g ∧ some a.block ≠ sb
section
variable {w w' : World} {g n : Nat} {sb sb' : Option Nat} {A : Option Addr} {xs : List Value}
theorem Rn.below (h : Rn w g sb A n xs) (hb : Below w.heap.size w w') : Rn w' g sb A n xs := ⟨h.1.below hb, h.2⟩
theorem Rn.alloc (h : Rn w g sb A n xs) (o : Obj) : Rn (w.alloc o) g sb A n xs := h.below (below_alloc o)
theorem Rn.drewN (h : Rn w g sb A n xs) (k : Nat) : Rn (w.drewN k) g sb A n xs := h
theorem Rn.box (h : Rn w g sb A n xs) (hg : w.grownBy w' (some g)) : Rn w' g sb A n xs := ⟨h.1.grown hg (fun a ha e => (h.2 a ha).1 (by injection e)), h.2⟩
theorem Rn.row (h : Rn w g sb A n xs) (hn : 0 < n) (hg : w.grownBy w' sb) (hs : sb' = sb ∨ sb' = some w.heap.size) : Rn w' g sb' A n xs := by
  refine ⟨h.1.grown hg (fun a ha => (h.2 a ha).2), fun a ha => ⟨(h.2 a ha).1, ?_⟩⟩
  rcases hs with rfl | rfl
  · exact (h.2 a ha).2
  · intro e
    injection e with e
    obtain ⟨b, o, hA, hc⟩ := h.1.2 hn
    rw [hA] at ha
    injection ha with ha
    have hl := h.1.len
    obtain ⟨u, hu⟩ : ∃ u, xs[0]? = some u := ⟨_, List.getElem?_eq_getElem (by omega)⟩
    have hlt := lt_of_cell (hc 0 u hu)
    rw [← ha] at e
    simp only at e
    omega
theorem Rn.new {m : Nat} (h : Rd w 1 A n xs) (hr : ∀ a, A = some a → m ≤ a.block) (hg : g < m) (hs : ∀ x, sb = some x → x < m) : Rn w g sb A n xs :=
  ⟨h, fun a ha => ⟨by have := hr a ha; omega, fun e => by have := hr a ha; have := hs _ e.symm; omega⟩⟩
end
/-- the frames that were sent -/
def Sent (w : World) (g : Nat) (sb : Option Nat) (fs : List (Option Addr × Nat)) : Prop := ∀ (j : Nat) p, fs[j]? = some p → Rn w g sb p.1 9 (byts (frB j)) ∧ 9 ≤ p.2 ∧ p.2 ≤ maxLen
def sentV (fs : List (Option Addr × Nat)) : List Value := fs.map fun p => .slice p.1 9 p.2
section
variable {w w' : World} {g : Nat} {sb sb' : Option Nat} {fs : List (Option Addr × Nat)}
theorem Sent.below (h : Sent w g sb fs) (hb : Below w.heap.size w w') : Sent w' g sb fs := fun j p hp => ⟨(h j p hp).1.below hb, (h j p hp).2⟩
theorem Sent.alloc (h : Sent w g sb fs) (o : Obj) : Sent (w.alloc o) g sb fs := h.below (below_alloc o)
theorem Sent.drewN (h : Sent w g sb fs) (k : Nat) : Sent (w.drewN k) g sb fs := h
theorem Sent.box (h : Sent w g sb fs) (hg : w.grownBy w' (some g)) : Sent w' g sb fs := fun j p hp => ⟨(h j p hp).1.box hg, (h j p hp).2⟩
theorem Sent.row (h : Sent w g sb fs) (hg : w.grownBy w' sb) (hs : sb' = sb ∨ sb' = some w.heap.size) : Sent w' g sb' fs := fun j p hp => ⟨(h j p hp).1.row (by omega) hg hs, (h j p hp).2⟩
theorem Sent.push (h : Sent w g sb fs) {p : Option Addr × Nat} (hp : Rn w g sb p.1 9 (byts (frB fs.length))) (h1 : 9 ≤ p.2) (h2 : p.2 ≤ maxLen) : Sent w g sb (fs ++ [p]) := by
  intro j q hq
  by_cases hj : j < fs.length
  · rw [List.getElem?_append_left hj] at hq
    exact h j q hq
  · rw [List.getElem?_append_right (by omega)] at hq
    have hj0 : j - fs.length = 0 := by
      rcases Nat.eq_zero_or_pos (j - fs.length) with h0 | h0
      · exact h0
      · rw [List.getElem?_eq_none (by simp; omega)] at hq
        cases hq
    rw [hj0] at hq
    simp at hq
    subst hq
    have : j = fs.length := by omega
    rw [this]
    exact ⟨hp, h1, h2⟩
end
end Go.Proofs.Ytdncdmibmopilaa.Bus
