/-
  More of the one fact for all that a call has made (Mem): one call behind another; a row written and forgotten; a block as a row. No conditions: plain lemmas.
-/
import Derived.Test.YtiogcbckhaknmaaDoorMem
namespace Go.Proofs.YtiogcbckhaknmaaDoor.W
open Go.RowKit
section
variable {w0 w w' : World} {Ks Ks' : List Box} {Os Os' : List Row}
theorem Mem.rows (h : Mem w0 w Ks Os) : Mem w0 w [] Os := ⟨h.bel, (fun _ h => by cases h), h.own, .nil, h.disO, (fun _ h => by cases h)⟩
theorem Mem.join (h : Mem w0 w Ks Os) (h' : Mem w w' Ks' Os') : Mem w0 w' Ks (Os' ++ Os) := by
  have h1 := h.below h'.bel
  refine ⟨h1.bel, h1.blk, fun o ho => ?_, h1.disK, List.pairwise_append.2 ⟨h'.disO, h.disO, fun a ha b hb x y hx hy => ?_⟩, fun k hk o ho x hx => ?_⟩
  · rcases List.mem_append.1 ho with ho | ho
    · exact own_weaken (h'.own o ho) h.bel.size
    · exact h1.own o ho
  · have := (own_blk_lt (h'.own a ha) x hx).1
    have := (own_blk_lt (h.own b hb) y hy).2
    omega
  · rcases List.mem_append.1 ho with ho | ho
    · have := (own_blk_lt (h'.own o ho) x hx).1
      have := (h.blk k hk).1.lt
      omega
    · exact h.dis k hk o ho x hx
/-- the first row is written, and forgotten -/
theorem Mem.lose {o : Row} (h : Mem w0 w Ks (o :: Os)) (hg : w.grownBy w' (Value.slice o.A o.n o.c).ownBlock) : Mem w0 w' Ks Os := by
  have hd := List.pairwise_cons.1 h.disO
  have h0 := h.own _ (List.mem_cons_self ..)
  have h2 : Mem w0 w Ks Os := ⟨h.bel, h.blk, fun o ho => h.own o (List.mem_cons_of_mem _ ho), h.disK, hd.2, fun k hk o ho => h.dis k hk o (List.mem_cons_of_mem _ ho)⟩
  have hA : ∀ g, (Value.slice o.A o.n o.c).ownBlock = some g → ∃ x, o.A = some x ∧ x.block = g := by
    intro g hg
    cases hA : o.A with
    | none => rw [hA] at hg; simp [Value.ownBlock] at hg
    | some a => rw [hA] at hg; exact ⟨a, rfl, by simpa [Value.ownBlock] using hg⟩
  exact h2.grownAll hg (fun g e => (h0.lt g e).1)
    (fun k hk e => by
      obtain ⟨x, hx, hxg⟩ := hA _ e
      exact h.dis k hk _ (List.mem_cons_self ..) x hx hxg)
    (fun o' hO y hy e => by
      obtain ⟨x, hx, hxg⟩ := hA _ e
      exact hd.1 o' hO x y hx hy hxg)
theorem Mem.asRow {g sz n : Nat} {t : TypeId} {cs : Array Value} {xs : List Value} (h : Mem w0 w (⟨g, t, cs⟩ :: Ks) Os) (hx : cs.toList = xs) (hn : xs.length = n * sz) (hm : n ≤ maxLen) : Mem w0 w Ks (⟨t, sz, some ⟨g, 0, none⟩, n, n, xs⟩ :: Os) := by
  have hd := List.pairwise_cons.1 h.disK
  have h0 := h.blk _ (List.mem_cons_self ..)
  refine ⟨h.bel, fun k hk => h.blk k (List.mem_cons_of_mem _ hk), fun o ho => ?_, hd.2, List.pairwise_cons.2 ⟨fun o ho x y hxx hy => ?_, h.disO⟩, fun k hk o ho x hxx => ?_⟩
  · rcases List.mem_cons.1 ho with rfl | ho
    · refine ⟨hn, .inr ⟨g, n, cs, rfl, h0.2, h0.1, Nat.le_refl _, hm, ?_, ?_⟩⟩
      · rw [← Array.length_toList, hx, hn]
      · rw [hx, ← hn, List.take_length]
    · exact h.own o ho
  · injection hxx with hxx
    subst hxx
    exact Ne.symm (h.dis _ (List.mem_cons_self ..) o ho y hy)
  · rcases List.mem_cons.1 ho with rfl | ho
    · injection hxx with hxx
      subst hxx
      exact hd.1 k hk
    · exact h.dis k (List.mem_cons_of_mem _ hk) o ho x hxx
end
theorem own_cap {w : World} {base sz n c : Nat} {e : TypeId} {A : Option Addr} {xs : List Value} (h : w.ownsRow base e sz (.slice A n c) n xs) : n ≤ c := by
  obtain ⟨A', c', e1, h1, _⟩ := own_shape h
  injection e1 with _ _ e3
  subst e3
  exact h1
theorem Mem.one {w0 w : World} {Ks : List Box} {Os : List Row} {a : Row} (h : Mem w0 w Ks (a :: Os)) : Mem w0 w [] [a] :=
  ⟨h.bel, (fun _ h => by cases h), fun o ho => h.own o (by rw [List.mem_singleton.1 ho]; exact List.mem_cons_self ..), .nil, List.pairwise_singleton _ _, (fun _ h => by cases h)⟩
theorem Mem.duo {w0 w : World} {Ks : List Box} {Os : List Row} {a b : Row} (h : Mem w0 w Ks (a :: b :: Os)) : Mem w0 w Ks [a, b] :=
  ⟨h.bel, h.blk, fun o ho => h.own o (by rcases List.mem_cons.1 ho with rfl | ho; exact List.mem_cons_self ..; exact List.mem_cons_of_mem _ (by rw [List.mem_singleton.1 ho]; exact List.mem_cons_self ..)), h.disK,
    h.disO.sublist (List.Sublist.cons_cons _ (List.Sublist.cons_cons _ (List.nil_sublist _))), fun k hk o ho => h.dis k hk o (by rcases List.mem_cons.1 ho with rfl | ho; exact List.mem_cons_self ..; exact List.mem_cons_of_mem _ (by rw [List.mem_singleton.1 ho]; exact List.mem_cons_self ..))⟩
end Go.Proofs.YtiogcbckhaknmaaDoor.W
