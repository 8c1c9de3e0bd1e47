/-
  What both Shapes hand over, of any name; a call's memory joined to its caller's. Conditions: the variable that holds the length of the library's longest quick search reads.
-/
import Derived.Test.YthgjjclmepfbpaaDoorBlk5
namespace Go.Proofs.YthgjjclmepfbpaaDoor.W
open Go.RowKit
section
variable {w0 w w' : World} {Ks Ks' : List Box} {Os Os' : List Row}
theorem Mem.rows (h : Mem w0 w Ks Os) : Mem w0 w [] Os := ⟨h.bel, (fun _ h => by cases h), h.own, .nil, h.disO, (fun _ h => by cases h)⟩
/-- what a callee has made -/
theorem Mem.join (h : Mem w0 w Ks Os) (h' : Mem w w' Ks' Os') : Mem w0 w' Ks (Os' ++ Os) := by
  have h1 := h.below h'.bel
  refine ⟨h1.bel, h1.blk, fun o ho => ?_, h1.disK, List.pairwise_append.2 ⟨h'.disO, h.disO, fun a ha b hb x y hx hy => ?_⟩, fun k hk o ho x hx => ?_⟩
  · rcases List.mem_append.1 ho with ho | ho
    · exact own_weaken (h'.own o ho) h.bel.size
    · exact h1.own o ho
  · have := (own_blk_lt (h'.own a ha) x hx).1
    have := (own_blk_lt (h.own b hb) y hy).2
    omega
  · rcases List.mem_append.1 ho with ho | ho
    · have := (own_blk_lt (h'.own o ho) x hx).1
      have := (h.blk k hk).1.lt
      omega
    · exact h.dis k hk o ho x hx
/-- the first row is written, and forgotten -/
theorem Mem.lose {o : Row} (h : Mem w0 w Ks (o :: Os)) (hg : w.grownBy w' (Value.slice o.A o.n o.c).ownBlock) : Mem w0 w' Ks Os := by
  have hd := List.pairwise_cons.1 h.disO
  have h0 := h.own _ (List.mem_cons_self ..)
  have h2 : Mem w0 w Ks Os := ⟨h.bel, h.blk, fun o ho => h.own o (List.mem_cons_of_mem _ ho), h.disK, hd.2, fun k hk o ho => h.dis k hk o (List.mem_cons_of_mem _ ho)⟩
  have hA : ∀ g, (Value.slice o.A o.n o.c).ownBlock = some g → ∃ x, o.A = some x ∧ x.block = g := by
    intro g hg
    cases hA : o.A with
    | none => rw [hA] at hg; simp [Value.ownBlock] at hg
    | some a => rw [hA] at hg; exact ⟨a, rfl, by simpa [Value.ownBlock] using hg⟩
  exact h2.grownAll hg (fun g e => (h0.lt g e).1)
    (fun k hk e => by
      obtain ⟨x, hx, hxg⟩ := hA _ e
      exact h.dis k hk _ (List.mem_cons_self ..) x hx hxg)
    (fun o' hO y hy e => by
      obtain ⟨x, hx, hxg⟩ := hA _ e
      exact hd.1 o' hO x y hx hy hxg)
/-- a box as a row -/
theorem Mem.asRow {g sz n : Nat} {t : TypeId} {cs : Array Value} {xs : List Value} (h : Mem w0 w (⟨g, t, cs⟩ :: Ks) Os) (hx : cs.toList = xs) (hn : xs.length = n * sz) (hm : n ≤ maxLen) : Mem w0 w Ks (⟨t, sz, some ⟨g, 0, none⟩, n, n, xs⟩ :: Os) := by
  have hd := List.pairwise_cons.1 h.disK
  have h0 := h.blk _ (List.mem_cons_self ..)
  refine ⟨h.bel, fun k hk => h.blk k (List.mem_cons_of_mem _ hk), fun o ho => ?_, hd.2, List.pairwise_cons.2 ⟨fun o ho x y hxx hy => ?_, h.disO⟩, fun k hk o ho x hxx => ?_⟩
  · rcases List.mem_cons.1 ho with rfl | ho
    · refine ⟨hn, .inr ⟨g, n, cs, rfl, h0.2, h0.1, Nat.le_refl _, hm, ?_, ?_⟩⟩
      · rw [← Array.length_toList, hx, hn]
      · rw [hx, ← hn, List.take_length]
    · exact h.own o ho
  · injection hxx with hxx
    subst hxx
    exact Ne.symm (h.dis _ (List.mem_cons_self ..) o ho y hy)
  · rcases List.mem_cons.1 ho with rfl | ho
    · injection hxx with hxx
      subst hxx
      exact hd.1 k hk
    · exact h.dis k (List.mem_cons_of_mem _ hk) o ho x hxx
end
end Go.Proofs.YthgjjclmepfbpaaDoor.W
namespace Go.Proofs.YthgjjclmepfbpaaDoor.Blk
open Go.RowKit Go.Proofs.YthgjjclmepfbpaaDoor.W Go.Proofs.YthgjjclmepfbpaaDoor.Ints

def ShapeC (f : FuncId) (s : ByteArray) (ok : Bool) (l1 l2 l3 : List PN) : Prop := ∀ (w : World) (m : Int), w.cell? ⟨0, 0, none⟩ = some (.int .i64 m) →
  Calls Tryd.prog f #[.string s] w fun e w' => ∃ A1 c1 A2 c2 A3 c3, e = .returned (.tuple #[.agg #[.slice A1 l1.length c1, .slice A2 l2.length c2, .slice A3 l3.length c3], .bool ok]) ∧
    Mem w w' [] [pinR A1 c1 l1, pinR A2 c2 l2, pinR A3 c3 l3]
theorem pin_small {s : ByteArray} (h : pinOkB s = true) : (pinsL s).length ≤ 100 := by
  simp only [pinOkB, Bool.and_eq_true, decide_eq_true_eq] at h
  simpa [pinsL] using h.1.2
theorem pinV_len (l : List PN) : (pinV l).length = l.length * 2 := by
  induction l with
  | nil => rfl
  | cons p l ih =>
    have : pinV (p :: l) = p.cs ++ pinV l := rfl
    rw [this, List.length_append, ih, PN.len, List.length_cons]
    omega
theorem shapes (s : ByteArray) : ∃ ok l1 l2 l3, (l1.length ≤ 100 ∧ l2.length ≤ 100 ∧ l3.length ≤ 100) ∧ ShapeC 9 s ok l1 l2 l3 ∧ ShapeC 8 s ok l1 l2 l3 := by
  by_cases h : ∃ b ∈ bts, s = b.nm
  · obtain ⟨b, hb, rfl⟩ := h
    have hok := List.all_eq_true.1 bts_ok b hb
    simp only [Bool.and_eq_true] at hok
    obtain ⟨⟨o1, o2⟩, o3⟩ := hok
    refine ⟨true, pinsL b.ins, pinsL b.outs, pinsL b.st, ⟨pin_small o1, pin_small o2, pin_small o3⟩, fun w m hm => ?_, fun w m hm => ?_⟩
    · refine (shape_known hb m w hm).mono ?_
      rintro e w' ⟨A1, c1, A2, c2, A3, c3, Ks, rfl, M⟩
      exact ⟨A1, c1, A2, c2, A3, c3, rfl, M.rows⟩
    · refine (ref_known hb w).mono ?_
      rintro e w' ⟨g1, g2, g3, Ks, rfl, M⟩
      have q1 := pin_small o1
      have q2 := pin_small o2
      have q3 := pin_small o3
      have M1 := M.asRow (sz := 2) (n := (pinsL b.ins).length) (xs := pinV (pinsL b.ins)) (by simp) (pinV_len _) (by unfold maxLen; omega)
      have M2 := M1.asRow (sz := 2) (n := (pinsL b.outs).length) (xs := pinV (pinsL b.outs)) (by simp) (pinV_len _) (by unfold maxLen; omega)
      have M3 := M2.asRow (sz := 2) (n := (pinsL b.st).length) (xs := pinV (pinsL b.st)) (by simp) (pinV_len _) (by unfold maxLen; omega)
      exact ⟨_, _, _, _, _, _, rfl, (((M3.rows).upO 1 rfl).upO 2 rfl)⟩
  · have h' : ∀ b ∈ bts, ¬ s = b.nm := fun b hb e => h ⟨b, hb, e⟩
    refine ⟨false, [], [], [], by simp, fun w m hm => ?_, fun w m hm => ?_⟩
    · refine (shape_none h' w).mono ?_
      rintro e w' ⟨rfl, hb⟩
      exact ⟨none, 0, none, 0, none, 0, rfl, ((((Mem.start w).below hb).nilO _ _).nilO _ _).nilO _ _⟩
    · refine (ref_none h' w).mono ?_
      rintro e w' ⟨rfl, hb⟩
      exact ⟨none, 0, none, 0, none, 0, rfl, ((((Mem.start w).below hb).nilO _ _).nilO _ _).nilO _ _⟩
end Go.Proofs.YthgjjclmepfbpaaDoor.Blk
