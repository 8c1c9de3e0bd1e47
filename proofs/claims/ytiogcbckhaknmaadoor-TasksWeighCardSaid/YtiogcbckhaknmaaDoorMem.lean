/-
  All that a call has made so far, under one name: boxes and growing rows, each in a block of its own. What stays behind a call, a new block, a store, an append. No conditions: plain lemmas.
-/
import Derived.Test.YtiogcbckhaknmaaDoorSt
namespace Go.Proofs.YtiogcbckhaknmaaDoor.W
open Go.RowKit

structure Row where
  e : TypeId
  sz : Nat
  A : Option Addr
  n : Nat
  c : Nat
  xs : List Value
structure Mem (w0 w : World) (Ks : List Box) (Os : List Row) : Prop where
  bel : Below w0.heap.size w0 w
  blk : ∀ k ∈ Ks, Blk w k.g k.t k.cs ∧ w0.heap.size ≤ k.g
  own : ∀ o ∈ Os, w.ownsRow w0.heap.size o.e o.sz (.slice o.A o.n o.c) o.n o.xs
  disK : Ks.Pairwise fun a b => a.g ≠ b.g
  disO : Os.Pairwise fun a b => ∀ x y, a.A = some x → b.A = some y → x.block ≠ y.block
  dis : ∀ k ∈ Ks, ∀ o ∈ Os, ∀ x, o.A = some x → x.block ≠ k.g

theorem own_blk_lt {w : World} {base sz n c : Nat} {e : TypeId} {A : Option Addr} {xs : List Value} (h : w.ownsRow base e sz (.slice A n c) n xs) : ∀ x, A = some x → base ≤ x.block ∧ x.block < w.heap.size := by
  intro x hx
  subst hx
  exact h.lt _ rfl
theorem own_rebase {w : World} {base base' sz n c : Nat} {e : TypeId} {A : Option Addr} {xs : List Value} (h : w.ownsRow base e sz (.slice A n c) n xs) (hb : ∀ x, A = some x → base' ≤ x.block) : w.ownsRow base' e sz (.slice A n c) n xs := by
  refine ⟨h.1, ?_⟩
  rcases h.2 with h1 | ⟨g, cap, cur, hv, _, rest⟩
  · exact .inl h1
  · refine .inr ⟨g, cap, cur, hv, ?_, rest⟩
    injection hv with hv
    exact hb _ hv
theorem perm_up {α : Type} : ∀ (l : List α) (i : Nat) (a : α), l[i]? = some a → (a :: l.eraseIdx i).Perm l
  | [], _, _, h => by simp at h
  | x :: xs, 0, a, h => by
    simp at h
    subst h
    exact List.Perm.refl _
  | x :: xs, i + 1, a, h => (List.Perm.swap x a _).trans (List.Perm.cons x (perm_up xs i a (by simpa using h)))
theorem pair_up {α : Type} {R : α → α → Prop} (hR : ∀ x y, R x y → R y x) {l : List α} (h : l.Pairwise R) {i : Nat} {a : α} (hi : l[i]? = some a) : (a :: l.eraseIdx i).Pairwise R :=
  ((perm_up l i a hi).pairwise_iff (fun {x y} => hR x y)).2 h
theorem mem_up {α : Type} {l : List α} {i : Nat} {a : α} (hi : l[i]? = some a) {x : α} (hx : x ∈ a :: l.eraseIdx i) : x ∈ l := (perm_up l i a hi).mem_iff.1 hx

section
variable {w0 w w' : World} {Ks : List Box} {Os : List Row}
theorem Mem.start (w : World) : Mem w w [] [] :=
  ⟨Below.refl _ _, (fun _ h => by cases h), (fun _ h => by cases h), .nil, .nil, (fun _ h => by cases h)⟩
theorem Mem.upK (h : Mem w0 w Ks Os) (i : Nat) {k : Box} (hi : Ks[i]? = some k) : Mem w0 w (k :: Ks.eraseIdx i) Os :=
  ⟨h.bel, fun x hx => h.blk x (mem_up hi hx), h.own, pair_up (fun _ _ h => Ne.symm h) h.disK hi, h.disO, fun x hx => h.dis x (mem_up hi hx)⟩
theorem Mem.upO (h : Mem w0 w Ks Os) (i : Nat) {o : Row} (hi : Os[i]? = some o) : Mem w0 w Ks (o :: Os.eraseIdx i) :=
  ⟨h.bel, h.blk, fun x hx => h.own x (mem_up hi hx), h.disK, pair_up (fun _ _ h x y hx hy => Ne.symm (h y x hy hx)) h.disO hi, fun k hk o ho => h.dis k hk o (mem_up hi ho)⟩
theorem Mem.delK (h : Mem w0 w Ks Os) (i : Nat) : Mem w0 w (Ks.eraseIdx i) Os :=
  ⟨h.bel, fun x hx => h.blk x (List.mem_of_mem_eraseIdx hx), h.own, h.disK.sublist (List.eraseIdx_sublist _ _), h.disO, fun x hx => h.dis x (List.mem_of_mem_eraseIdx hx)⟩
theorem Mem.delO (h : Mem w0 w Ks Os) (i : Nat) : Mem w0 w Ks (Os.eraseIdx i) :=
  ⟨h.bel, h.blk, fun x hx => h.own x (List.mem_of_mem_eraseIdx hx), h.disK, h.disO.sublist (List.eraseIdx_sublist _ _), fun k hk o ho => h.dis k hk o (List.mem_of_mem_eraseIdx ho)⟩

theorem Mem.ltK (h : Mem w0 w Ks Os) (i : Nat) {g : Nat} {t : TypeId} {cs : Array Value} (hi : Ks[i]? = some ⟨g, t, cs⟩) : w0.heap.size ≤ g ∧ g < w.heap.size := by
  have := h.blk _ (List.mem_of_getElem? hi)
  exact ⟨this.2, this.1.lt⟩
theorem Mem.blkK (h : Mem w0 w Ks Os) (i : Nat) {g : Nat} {t : TypeId} {cs : Array Value} (hi : Ks[i]? = some ⟨g, t, cs⟩) : Blk w g t cs := (h.blk _ (List.mem_of_getElem? hi)).1
theorem Mem.cellK (h : Mem w0 w Ks Os) (i : Nat) {g : Nat} {t : TypeId} {cs : Array Value} (hi : Ks[i]? = some ⟨g, t, cs⟩) : ∀ j, w.cell? ⟨g, j, none⟩ = cs[j]? := (h.blkK i hi).cell
theorem Mem.frozenK (h : Mem w0 w Ks Os) (i : Nat) {g : Nat} {t : TypeId} {cs : Array Value} (hi : Ks[i]? = some ⟨g, t, cs⟩) : ∀ j, w.frozen? ⟨g, j, none⟩ = false := (h.blkK i hi).frozen
theorem Mem.rowO (h : Mem w0 w Ks Os) (i : Nat) {e : TypeId} {sz : Nat} {A : Option Addr} {n c : Nat} {xs : List Value} (hi : Os[i]? = some ⟨e, sz, A, n, c, xs⟩) : w.ownsRow w0.heap.size e sz (.slice A n c) n xs := h.own _ (List.mem_of_getElem? hi)
theorem Mem.rdO (h : Mem w0 w Ks Os) (i : Nat) {e : TypeId} {sz : Nat} {A : Option Addr} {n c : Nat} {xs : List Value} (hi : Os[i]? = some ⟨e, sz, A, n, c, xs⟩) : Rd w sz A n xs := Rd.own (h.rowO i hi)
theorem Mem.shapeO (h : Mem w0 w Ks Os) (i : Nat) {e : TypeId} {sz : Nat} {A : Option Addr} {n c : Nat} {xs : List Value} (hi : Os[i]? = some ⟨e, sz, A, n, c, xs⟩) : n ≤ c ∧ c ≤ maxLen ∧ xs.length = n * sz := by
  have ho := h.rowO i hi
  obtain ⟨A', c', e1, h1, h2, _⟩ := own_shape ho
  injection e1 with _ _ e3
  subst e3
  exact ⟨h1, h2, ho.1⟩

/-- nothing that was there turned -/
theorem Mem.below (h : Mem w0 w Ks Os) (hb : Below w.heap.size w w') : Mem w0 w' Ks Os :=
  ⟨h.bel.trans (hb.mono h.bel.size), fun k hk => ⟨(h.blk k hk).1.below hb, (h.blk k hk).2⟩, fun o ho => own_below (h.own o ho) hb, h.disK, h.disO, h.dis⟩
theorem Mem.drewN (h : Mem w0 w Ks Os) (k : Nat) : Mem w0 (w.drewN k) Ks Os := h.below (below_drewN (Below.refl _ _) k)
theorem Mem.drew (h : Mem w0 w Ks Os) : Mem w0 w.drew Ks Os := h.drewN 1
/-- a new block -/
theorem Mem.alloc (h : Mem w0 w Ks Os) (t : TypeId) (cs : Array Value) : Mem w0 (w.alloc (.cells cs t)) (⟨w.heap.size, t, cs⟩ :: Ks) Os := by
  have h1 := h.below (below_alloc (.cells cs t))
  refine ⟨h1.bel, fun k hk => ?_, h1.own, List.pairwise_cons.2 ⟨fun k hk => ?_, h.disK⟩, h.disO, fun k hk o ho x hx => ?_⟩
  · rcases List.mem_cons.1 hk with rfl | hk
    · exact ⟨Blk.new w t cs, h.bel.size⟩
    · exact h1.blk k hk
  · have := (h.blk k hk).1.lt
    show w.heap.size ≠ k.g
    omega
  · rcases List.mem_cons.1 hk with rfl | hk
    · have := (own_blk_lt (h.own o ho) x hx).2
      show x.block ≠ w.heap.size
      omega
    · exact h.dis k hk o ho x hx
/-- a row that a callee, or a make, has made -/
theorem Mem.made (h : Mem w0 w Ks Os) (hb : Below w.heap.size w w') {e : TypeId} {sz : Nat} {A : Option Addr} {n c : Nat} {xs : List Value} (ho : w'.ownsRow w.heap.size e sz (.slice A n c) n xs) : Mem w0 w' Ks (⟨e, sz, A, n, c, xs⟩ :: Os) := by
  have h1 := h.below hb
  have hx := own_blk_lt ho
  refine ⟨h1.bel, h1.blk, fun o hO => ?_, h.disK, List.pairwise_cons.2 ⟨fun o hO x y hxx hy => ?_, h.disO⟩, fun k hk o hO x hxx => ?_⟩
  · rcases List.mem_cons.1 hO with rfl | hO
    · exact own_weaken ho h.bel.size
    · exact h1.own o hO
  · have := (own_blk_lt (h.own o hO) y hy).2
    have := (hx x hxx).1
    omega
  · rcases List.mem_cons.1 hO with rfl | hO
    · have := (hx x hxx).1
      have := (h.blk k hk).1.lt
      omega
    · exact h.dis k hk o hO x hxx
theorem Mem.nilO (h : Mem w0 w Ks Os) (e : TypeId) (sz : Nat) : Mem w0 w Ks (⟨e, sz, none, 0, 0, []⟩ :: Os) := h.made (Below.refl _ _) (World.ownsRow_nil _ _ _ _)

theorem Mem.grownAll {r : Option Nat} (h : Mem w0 w Ks Os) (hg : w.grownBy w' r) (hr : ∀ g, r = some g → w0.heap.size ≤ g) (hK : ∀ k ∈ Ks, r ≠ some k.g) (hO : ∀ o ∈ Os, ∀ x, o.A = some x → r ≠ some x.block) : Mem w0 w' Ks Os :=
  ⟨h.bel.trans (Grow.below hg h.bel.size hr), fun k hk => ⟨(h.blk k hk).1.grown hg (Ne.symm (hK k hk)), (h.blk k hk).2⟩,
    fun o ho => own_grown (h.own o ho) hg (fun g hg' => by
      cases hA : o.A with
      | none => rw [hA] at hg'; simp [Value.ownBlock] at hg'
      | some a => rw [hA] at hg'; simp [Value.ownBlock] at hg'; subst hg'; exact Ne.symm (hO o ho a hA)), h.disK, h.disO, h.dis⟩
/-- a store into the first box -/
theorem Mem.set {g i : Nat} {t : TypeId} {cs : Array Value} (h : Mem w0 w (⟨g, t, cs⟩ :: Ks) Os) (u : Value) : Mem w0 (w.setCell ⟨g, i, none⟩ u) (⟨g, t, cs.setIfInBounds i u⟩ :: Ks) Os := by
  have hg : w.grownBy (w.setCell ⟨g, i, none⟩ u) (some g) := ⟨rfl, rfl, rfl, by simp [World.setCell], fun k _ hne => Below.heap_setCell w ⟨g, i, none⟩ u k (fun e => hne (by rw [e]))⟩
  have hd := List.pairwise_cons.1 h.disK
  have h0 := h.blk _ (List.mem_cons_self ..)
  have h2 : Mem w0 w Ks Os := ⟨h.bel, fun k hk => h.blk k (List.mem_cons_of_mem _ hk), h.own, hd.2, h.disO, fun k hk => h.dis k (List.mem_cons_of_mem _ hk)⟩
  have h3 := h2.grownAll hg (fun x hx => by injection hx with hx; subst hx; exact h0.2) (fun k hk e => hd.1 k hk (by injection e)) (fun o ho x hx e => h.dis _ (List.mem_cons_self ..) o ho x hx (by injection e with e; exact e.symm))
  refine ⟨h3.bel, fun k hk => ?_, h3.own, List.pairwise_cons.2 ⟨hd.1, hd.2⟩, h.disO, fun k hk o ho x hx => ?_⟩
  · rcases List.mem_cons.1 hk with rfl | hk
    · exact ⟨h0.1.put i u, h0.2⟩
    · exact h3.blk k hk
  · rcases List.mem_cons.1 hk with rfl | hk
    · exact h.dis ⟨g, t, cs⟩ (List.mem_cons_self ..) o ho x hx
    · exact h.dis k (List.mem_cons_of_mem _ hk) o ho x hx
/-- the first row is written, or grows -/
theorem Mem.grow {e : TypeId} {sz : Nat} {A A' : Option Addr} {n n' c c' : Nat} {xs ys : List Value} (h : Mem w0 w Ks (⟨e, sz, A, n, c, xs⟩ :: Os)) (hg : w.grownBy w' (Value.slice A n c).ownBlock) (ho : w'.ownsRow w0.heap.size e sz (.slice A' n' c') n' ys)
    (hat : (Value.slice A' n' c').ownBlock = (Value.slice A n c).ownBlock ∨ (Value.slice A' n' c').ownBlock = some w.heap.size) : Mem w0 w' Ks (⟨e, sz, A', n', c', ys⟩ :: Os) := by
  have hd := List.pairwise_cons.1 h.disO
  have h0 := h.own _ (List.mem_cons_self ..)
  have h2 : Mem w0 w Ks Os := ⟨h.bel, h.blk, fun o ho => h.own o (List.mem_cons_of_mem _ ho), h.disK, hd.2, fun k hk o ho => h.dis k hk o (List.mem_cons_of_mem _ ho)⟩
  have hA : ∀ g, (Value.slice A n c).ownBlock = some g → ∃ x, A = some x ∧ x.block = g := by
    intro g hg
    cases A with
    | none => simp [Value.ownBlock] at hg
    | some a => exact ⟨a, rfl, by simpa [Value.ownBlock] using hg⟩
  have h3 := h2.grownAll hg (fun g e => (h0.lt g e).1)
    (fun k hk e => by
      obtain ⟨x, hx, hxg⟩ := hA _ e
      exact h.dis k hk _ (List.mem_cons_self ..) x hx hxg)
    (fun o hO y hy e => by
      obtain ⟨x, hx, hxg⟩ := hA _ e
      exact hd.1 o hO x y hx hy hxg)
  have hat' : ∀ x', A' = some x' → (∃ x, A = some x ∧ x.block = x'.block) ∨ x'.block = w.heap.size := by
    intro x' hx'
    subst hx'
    rcases hat with h4 | h4
    · exact .inl (hA _ h4.symm)
    · right
      simpa [Value.ownBlock] using h4
  refine ⟨h3.bel, h3.blk, fun o hO => ?_, h.disK, List.pairwise_cons.2 ⟨fun o hO x y hx hy => ?_, hd.2⟩, fun k hk o hO x hx => ?_⟩
  · rcases List.mem_cons.1 hO with rfl | hO
    · exact ho
    · exact h3.own o hO
  · rcases hat' x hx with ⟨z, hz, e⟩ | e
    · rw [← e]
      exact hd.1 o hO z y hz hy
    · have := (own_blk_lt (h.own o (List.mem_cons_of_mem _ hO)) y hy).2
      omega
  · rcases List.mem_cons.1 hO with rfl | hO
    · rcases hat' x hx with ⟨z, hz, e⟩ | e
      · rw [← e]
        exact h.dis k hk _ (List.mem_cons_self ..) z hz
      · have := (h.blk k hk).1.lt
        omega
    · exact h.dis k hk o (List.mem_cons_of_mem _ hO) x hx
/-- a store into the first row -/
theorem Mem.put {e : TypeId} {sz g n c j : Nat} {xs : List Value} (h : Mem w0 w Ks (⟨e, sz, some ⟨g, 0, none⟩, n, c, xs⟩ :: Os)) (u : Value) : Mem w0 (w.setCell ⟨g, j, none⟩ u) Ks (⟨e, sz, some ⟨g, 0, none⟩, n, c, xs.set j u⟩ :: Os) := by
  obtain ⟨h1, h2⟩ := (h.own _ (List.mem_cons_self ..)).stored j u
  exact h.grow h2 h1 (.inl rfl)
/-- an append of a new block onto the first row -/
theorem Mem.appd {e t : TypeId} {sz : Nat} {A A' : Option Addr} {n n' c c' : Nat} {xs ys : List Value} {cs : Array Value} (h : Mem w0 w Ks (⟨e, sz, A, n, c, xs⟩ :: Os)) (hg : (w.alloc (.cells cs t)).grownBy w' (Value.slice A n c).ownBlock)
    (ho : w'.ownsRow w0.heap.size e sz (.slice A' n' c') n' ys) (hat : (Value.slice A' n' c').ownBlock = (Value.slice A n c).ownBlock ∨ (Value.slice A' n' c').ownBlock = some (w.heap.size + 1)) : Mem w0 w' Ks (⟨e, sz, A', n', c', ys⟩ :: Os) :=
  ((h.below (below_alloc (.cells cs t)))).grow hg ho (by simpa only [World.size_alloc] using hat)
/-- the first row's address -/
theorem Mem.head {e : TypeId} {sz n c : Nat} {A : Option Addr} {xs : List Value} (h : Mem w0 w Ks (⟨e, sz, A, n, c, xs⟩ :: Os)) (hn : 0 < n) : ∃ g, A = some ⟨g, 0, none⟩ ∧ w0.heap.size ≤ g ∧ g < w.heap.size := own_head (h.own _ (List.mem_cons_self ..)) hn
/-- what an append needs -/
theorem Mem.base (h : Mem w0 w Ks Os) : w0.heap.size ≤ w.heap.size := h.bel.size
end
end Go.Proofs.YtiogcbckhaknmaaDoor.W
