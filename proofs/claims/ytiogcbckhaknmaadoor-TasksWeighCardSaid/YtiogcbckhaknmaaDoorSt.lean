/-
  The blocks and rows that a call has made so far, under one name: what stays of them behind a call, a new block, a store, an append. No conditions: plain lemmas.
-/
import Derived.Test.YtiogcbckhaknmaaDoorW
namespace Go.Proofs.YtiogcbckhaknmaaDoor.W
open Go.RowKit

/-- a row of the call's own: it lies in a block from lo up to hi -/
structure Own where
  lo : Nat
  hi : Nat
  e : TypeId
  sz : Nat
  A : Option Addr
  n : Nat
  c : Nat
  xs : List Value
def Own.ok (o : Own) (w : World) : Prop := w.ownsRow o.lo o.e o.sz (.slice o.A o.n o.c) o.n o.xs ∧ ∀ a, o.A = some a → a.block < o.hi
/-- a block that is known whole -/
structure Box where
  g : Nat
  t : TypeId
  cs : Array Value
structure St (w : World) (Ks : List Box) (Os : List Own) : Prop where
  blk : ∀ k ∈ Ks, Blk w k.g k.t k.cs
  own : ∀ o ∈ Os, o.ok w

section
variable {w w' : World} {Ks : List Box} {Os : List Own}
theorem St.nil (w : World) : St w [] [] := ⟨(fun _ h => by cases h), (fun _ h => by cases h)⟩
theorem St.below (h : St w Ks Os) (hb : Below w.heap.size w w') : St w' Ks Os :=
  ⟨fun k hk => (h.blk k hk).below hb, fun o ho => ⟨own_below (h.own o ho).1 hb, (h.own o ho).2⟩⟩
theorem St.drewN (h : St w Ks Os) (k : Nat) : St (w.drewN k) Ks Os := ⟨h.blk, h.own⟩
theorem St.drew (h : St w Ks Os) : St w.drew Ks Os := ⟨h.blk, h.own⟩
theorem St.grown {r : Option Nat} (h : St w Ks Os) (hg : w.grownBy w' r) (hK : ∀ k ∈ Ks, some k.g ≠ r) (hO : ∀ o ∈ Os, ∀ a, o.A = some a → some a.block ≠ r) : St w' Ks Os :=
  ⟨fun k hk => (h.blk k hk).grown hg (hK k hk), fun o ho => ⟨own_grown (h.own o ho).1 hg (fun g hg' => by
    cases hA : o.A with
    | none => rw [hA] at hg'; simp [Value.ownBlock] at hg'
    | some a => rw [hA] at hg'; simp [Value.ownBlock] at hg'; subst hg'; exact hO o ho a hA), (h.own o ho).2⟩⟩
theorem St.alloc (h : St w Ks Os) (t : TypeId) (cs : Array Value) : St (w.alloc (.cells cs t)) (⟨w.heap.size, t, cs⟩ :: Ks) Os :=
  ⟨fun k hk => by
    rcases List.mem_cons.1 hk with rfl | hk
    · exact Blk.new w t cs
    · exact (h.blk k hk).alloc _, fun o ho => ⟨own_below (h.own o ho).1 (below_alloc _), (h.own o ho).2⟩⟩
theorem St.push (h : St w Ks Os) {o : Own} (ho : o.ok w) : St w Ks (o :: Os) :=
  ⟨h.blk, fun x hx => by
    rcases List.mem_cons.1 hx with rfl | hx
    · exact ho
    · exact h.own x hx⟩
theorem St.keep (h : St w Ks Os) {Ks' : List Box} {Os' : List Own} (hK : ∀ k ∈ Ks', k ∈ Ks) (hO : ∀ o ∈ Os', o ∈ Os) : St w Ks' Os' := ⟨fun k hk => h.blk k (hK k hk), fun o ho => h.own o (hO o ho)⟩
/-- a store into the first box -/
theorem St.set {g i : Nat} {t : TypeId} {cs d : Array Value} {u : Value} (h : St w (⟨g, t, cs⟩ :: Ks) Os) (hK : ∀ k ∈ Ks, k.g ≠ g) (hO : ∀ o ∈ Os, ∀ a, o.A = some a → a.block ≠ g) (e : cs.setIfInBounds i u = d) :
    St (w.setCell ⟨g, i, none⟩ u) (⟨g, t, d⟩ :: Ks) Os := by
  have hg : w.grownBy (w.setCell ⟨g, i, none⟩ u) (some g) := ⟨rfl, rfl, rfl, by simp [World.setCell], fun k _ hne => Below.heap_setCell w ⟨g, i, none⟩ u k (fun e => hne (by rw [e]))⟩
  refine ⟨fun k hk => ?_, fun o ho => ?_⟩
  · rcases List.mem_cons.1 hk with rfl | hk
    · exact e ▸ (h.blk ⟨g, t, cs⟩ (List.mem_cons_self ..)).put i u
    · exact (h.blk k (List.mem_cons_of_mem _ hk)).grown hg (fun e => hK k hk (by injection e))
  · have h1 : St w Ks Os := h.keep (fun k hk => List.mem_cons_of_mem _ hk) (fun o ho => ho)
    exact (h1.grown hg (fun k hk e => hK k hk (by injection e)) (fun o ho a ha e => hO o ho a ha (by injection e))).own o ho
theorem St.cell (h : St w Ks Os) {g : Nat} {t : TypeId} {cs : Array Value} (hk : (⟨g, t, cs⟩ : Box) ∈ Ks) : ∀ i, w.cell? ⟨g, i, none⟩ = cs[i]? := (h.blk _ hk).cell
theorem St.frozen (h : St w Ks Os) {g : Nat} {t : TypeId} {cs : Array Value} (hk : (⟨g, t, cs⟩ : Box) ∈ Ks) : ∀ i, w.frozen? ⟨g, i, none⟩ = false := (h.blk _ hk).frozen
theorem St.rd (h : St w Ks Os) {o : Own} (ho : o ∈ Os) : Rd w o.sz o.A o.n o.xs := Rd.own (h.own o ho).1
theorem St.range (h : St w Ks Os) {o : Own} (ho : o ∈ Os) : ∀ a, o.A = some a → o.lo ≤ a.block ∧ a.block < o.hi := by
  intro a ha
  refine ⟨?_, (h.own o ho).2 a ha⟩
  rcases (h.own o ho).1.2 with ⟨hv, _⟩ | ⟨g, cap, cur, hv, hb, _⟩
  · rw [ha] at hv; cases hv
  · rw [ha] at hv
    injection hv with hv _ _
    injection hv with hv
    rw [hv]
    exact hb
end
theorem Own.mk' {w : World} {lo hi sz n c : Nat} {e : TypeId} {A : Option Addr} {xs : List Value} (h : w.ownsRow lo e sz (.slice A n c) n xs) (hhi : w.heap.size ≤ hi) : (⟨lo, hi, e, sz, A, n, c, xs⟩ : Own).ok w :=
  ⟨h, fun a ha => by
    have ha : A = some a := ha
    rcases h.2 with ⟨hv, _⟩ | ⟨g, cap, cur, hv, hb, hg, _⟩
    · rw [ha] at hv; cases hv
    · rw [ha] at hv
      injection hv with hv _ _
      injection hv with hv
      have := (Array.getElem?_eq_some_iff.1 hg).1
      rw [hv]
      show g < hi
      omega⟩
/-- a row is written over: what lies in other blocks stays -/
theorem St.over {w w' : World} {Ks : List Box} {Os : List Own} {A : Option Addr} {n c lo hi : Nat} (h : St w Ks Os) (hg : w.grownBy w' (Value.slice A n c).ownBlock) (hr : ∀ a, A = some a → lo ≤ a.block ∧ a.block < hi)
    (hK : ∀ k ∈ Ks, k.g < lo ∨ hi ≤ k.g) (hO : ∀ o ∈ Os, o.hi ≤ lo ∨ hi ≤ o.lo) : St w' Ks Os := by
  refine h.grown hg (fun k hk e => ?_) (fun o ho a ha e => ?_)
  · cases A with
    | none => simp [Value.ownBlock] at e
    | some a =>
      simp [Value.ownBlock] at e
      have := hr a rfl
      have := hK k hk
      omega
  · cases A with
    | none => simp [Value.ownBlock] at e
    | some b =>
      simp [Value.ownBlock] at e
      have := hr b rfl
      have := hO o ho
      have := h.range ho a ha
      omega
theorem over_below {w w' : World} {A : Option Addr} {n c lo hi N : Nat} (hg : w.grownBy w' (Value.slice A n c).ownBlock) (hr : ∀ a, A = some a → lo ≤ a.block ∧ a.block < hi) (hN : N ≤ lo) (hs : N ≤ w.heap.size) : Below N w w' :=
  Grow.below hg hs (fun g e => by
    cases A with
    | none => simp [Value.ownBlock] at e
    | some b =>
      simp [Value.ownBlock] at e
      have := hr b rfl
      omega)
theorem grow_none {w w' : World} (h : w.grownBy w' none) : Below w.heap.size w w' := Grow.below h (Nat.le_refl _) (fun _ h => by cases h)
end Go.Proofs.YtiogcbckhaknmaaDoor.W
