/-
  The program's own look at loops, in plain words: what its map holds; which loops are open. No conditions: plain lemmas.
-/
import Derived.Test.YtiogcbckhaknmaaDoorVp2
import Derived.Maps.OwnOps
import Derived.Maps.OwnSet
namespace Go.Proofs.YtiogcbckhaknmaaDoor.Vf
open Go.RowKit Go.Maps Go.Proofs.YtiogcbckhaknmaaDoor.W Go.Proofs.YtiogcbckhaknmaaDoor.Ints Go.Proofs.YtiogcbckhaknmaaDoor.Cod

def keyI (e : Int) : Lit := .int .i64 e
theorem keyI_ne {a b : Int} (h : a ≠ b) : keyI a ≠ keyI b := fun e => h (by injection e)
theorem keyI_is (e : Int) : WideAt.IsKeyLit (keyI e) := trivial
/-- what the map of rounds holds -/
def endF (T : List IN) : Nat → DataW Unit
  | 0 => .map []
  | k + 1 => match T[k]? with | some x => if x.op = 14 then (endF T k).put (keyI x.b) (.lit (.int .i64 (k : Int))) else endF T k | none => endF T k
theorem end_is (T : List IN) : ∀ k, IsMap (endF T k)
  | 0 => isMap_empty
  | k + 1 => by
    unfold endF
    split
    · split
      · exact (end_is T k).put _ _
      · exact end_is T k
    · exact end_is T k
theorem end_round {T : List IN} {k : Nat} {x : IN} (hx : T[k]? = some x) (ho : x.op = 14) : endF T (k + 1) = (endF T k).put (keyI x.b) (.lit (.int .i64 (k : Int))) := by
  show (match T[k]? with | some x => if x.op = 14 then (endF T k).put (keyI x.b) (.lit (.int .i64 (k : Int))) else endF T k | none => endF T k) = _
  rw [hx]
  simp [ho]
theorem end_same {T : List IN} {k : Nat} {x : IN} (hx : T[k]? = some x) (ho : ¬ x.op = 14) : endF T (k + 1) = endF T k := by
  show (match T[k]? with | some x => if x.op = 14 then (endF T k).put (keyI x.b) (.lit (.int .i64 (k : Int))) else endF T k | none => endF T k) = _
  rw [hx]
  simp [ho]
theorem ok_less {T : List IN} {k : Nat} (h : RoundOk T (k + 1)) : RoundOk T k := fun i x hi hx ho => h i x (by omega) hx ho
theorem end_at {T : List IN} (e : Int) (z : DataW Unit) : ∀ {k : Nat}, RoundOk T k → k ≤ T.length → (endF T k).atKey (keyI e) z = (match roundAt (T.take k) e with | some r => .lit (.int .i64 (r : Int)) | none => z) ∧ Maps.has (endF T k) (keyI e) = (roundAt (T.take k) e).isSome
  | 0, _, _ => ⟨by simp [roundAt]; rfl, by simp [roundAt]; rfl⟩
  | k + 1, h, hk => by
    have hx : T[k]? = some T[k] := List.getElem?_eq_getElem (by omega)
    obtain ⟨ih1, ih2⟩ := end_at e z (ok_less h) (by omega)
    rw [round_snoc hx e]
    by_cases ho : T[k].op = 14
    · have hno := (h k _ (by omega) hx ho).2
      rw [end_round hx ho]
      by_cases hb : T[k].b = e
      · rw [hb] at hno
        subst hb
        rw [atKey_put_same (end_is T k) (keyI_is _), has_put_same (end_is T k) (keyI_is _), hno]
        simp [ho]
      · rw [atKey_put_other (keyI_ne (Ne.symm hb)), has_put_other (keyI_ne (Ne.symm hb)), ih1, ih2]
        cases roundAt (T.take k) e with
        | some r => simp
        | none => simp [hb]
    · rw [end_same hx ho, ih1, ih2]
      cases roundAt (T.take k) e with
      | some r => simp
      | none => simp [ho]
/-! ### what the program holds at a place of the text -/
structure Inv (T : List IN) (i : Nat) (O : List LP) : Prop where
  dec : Dec O
  now : O.filter (fun l => decide (i ≤ l.to)) = openAt T i i
  pairs : (loopsTo T i).Pairwise pairOk
  ends : ∀ l ∈ loopsTo T i, ∃ y, T[l.to]? = some y ∧ y.op = 14
  enters : ∀ (i' : Nat) (x : IN), i' < i → T[i']? = some x → x.op = 13 → ∃ r, roundAt T ((i' : Int) + 1) = some r
theorem inv_zero (T : List IN) : Inv T 0 [] := ⟨.nil, rfl, .nil, (fun l hl => by cases hl), fun i' x hi => by omega⟩
theorem inv_pop {T : List IN} {i : Nat} {O : List LP} (h : Inv T i O) : Inv T i (openAt T i i) := by
  refine ⟨?_, ?_, h.pairs, h.ends, h.enters⟩
  · rw [← h.now]
    exact h.dec.sublist List.filter_sublist
  · unfold openAt
    rw [List.filter_filter]
    simp
theorem inv_same {T : List IN} {i : Nat} {x : IN} (h : Inv T i (openAt T i i)) (hx : T[i]? = some x) (ho : ¬ x.op = 13) : Inv T (i + 1) (openAt T i i) := by
  have e := loops_same hx ho
  refine ⟨h.dec, ?_, by rw [e]; exact h.pairs, by rw [e]; exact h.ends, fun i' y hi hy hyo => ?_⟩
  · rw [open_more (Nat.le_succ i)]
    unfold openAt
    rw [e]
  · by_cases hlt : i' < i
    · exact h.enters i' y hlt hy hyo
    · obtain rfl : i' = i := by omega
      rw [hx] at hy
      obtain rfl := Option.some.inj hy
      exact absurd hyo ho
/-- a new loop that may be -/
theorem inv_new {T : List IN} {i r : Nat} {x : IN} (h : Inv T i (openAt T i i)) (hx : T[i]? = some x) (ho : x.op = 13) (hr : roundAt T ((i : Int) + 1) = some r) (hir : i + 1 ≤ r)
    (hc : ∀ l ∈ openAt T i i, r < l.to ∧ l.counter ≠ x.a) : Inv T (i + 1) (openAt T i i ++ [⟨i + 1, r, x.a, x.b⟩]) ∧ loopsTo T (i + 1) = loopsTo T i ++ [⟨i + 1, r, x.a, x.b⟩] := by
  have e : loopsTo T (i + 1) = loopsTo T i ++ [⟨i + 1, r, x.a, x.b⟩] := by
    rw [loops_snoc hx ho]
    unfold loopOf
    rw [hr]
    rfl
  refine ⟨⟨?_, ?_, ?_, ?_, ?_⟩, e⟩
  · refine List.pairwise_append.2 ⟨h.dec, List.pairwise_singleton _ _, fun a ha b hb => ?_⟩
    obtain rfl := List.mem_singleton.1 hb
    exact (hc a ha).1
  · rw [List.filter_append, open_more (Nat.le_succ i)]
    unfold openAt
    rw [e, List.filter_append]
  · rw [e]
    refine List.pairwise_append.2 ⟨h.pairs, List.pairwise_singleton _ _, fun a ha b hb => ?_⟩
    obtain rfl := List.mem_singleton.1 hb
    by_cases hai : i ≤ a.to
    · exact .inr (hc a (List.mem_filter.2 ⟨ha, by simpa using hai⟩))
    · exact .inl (by show a.to < i + 1; omega)
  · rw [e]
    intro l hl
    rcases List.mem_append.1 hl with h1 | h1
    · exact h.ends l h1
    · obtain rfl := List.mem_singleton.1 h1
      obtain ⟨y, hy, hyo, _, _⟩ := round_some hr
      exact ⟨y, hy, hyo⟩
  · intro i' y hi hy hyo
    by_cases hlt : i' < i
    · exact h.enters i' y hlt hy hyo
    · obtain rfl : i' = i := by omega
      exact ⟨r, hr⟩
/-- a new loop that may not be -/
theorem inv_bad {T : List IN} {i r : Nat} {x : IN} (h : Inv T i (openAt T i i)) (hx : T[i]? = some x) (ho : x.op = 13) (hr : roundAt T ((i : Int) + 1) = some r) {l : LP} (hl : l ∈ openAt T i i) (hc : ¬ (r < l.to ∧ l.counter ≠ x.a)) : ¬ LoopsOk T := by
  intro hL
  have hi := (List.getElem?_eq_some_iff.1 hx).1
  obtain ⟨h1, h2⟩ := List.mem_filter.1 hl
  simp only [decide_eq_true_eq] at h2
  have e : loopsTo T (i + 1) = loopsTo T i ++ [⟨i + 1, r, x.a, x.b⟩] := by
    rw [loops_snoc hx ho]
    unfold loopOf
    rw [hr]
    rfl
  have hsub : ∀ m, i + 1 ≤ m → (loopsTo T (i + 1)).Sublist (loopsTo T m) := by
    intro m hm
    induction m with
    | zero => omega
    | succ m ih =>
      by_cases e2 : i + 1 = m + 1
      · rw [e2]; exact List.Sublist.refl _
      · exact (ih (by omega)).trans (List.sublist_append_left _ _)
  have hp := hL.pairs.sublist (hsub _ hi)
  rw [e] at hp
  have h3 := (List.pairwise_append.1 hp).2.2 l h1 _ (List.mem_singleton.2 rfl)
  rcases h3 with h3 | h3
  · have h4 : l.to = i := by
      have : l.to < i + 1 := h3
      omega
    obtain ⟨y, hy, hyo⟩ := h.ends l h1
    rw [h4, hx] at hy
    obtain rfl := Option.some.inj hy
    omega
  · exact hc h3
/-- all of it -/
theorem inv_all {T : List IN} {O : List LP} (h : Inv T T.length O) (hR : RoundOk T T.length) (hb : ∀ (i : Nat) (x : IN), T[i]? = some x → x.op = 14 → 1 ≤ x.b ∧ x.b ≤ i) : LoopsOk T := by
  obtain ⟨h1, h2⟩ := round_good hR hb (fun i x hx ho => h.enters i x (List.getElem?_eq_some_iff.1 hx).1 hx ho)
  exact ⟨h1, h2, h.pairs⟩
theorem enter_none {T : List IN} {i : Nat} {x : IN} (hx : T[i]? = some x) (ho : x.op = 13) (hr : roundAt T ((i : Int) + 1) = none) : ¬ LoopsOk T := by
  intro h
  have h1 := h.enters i x (List.getElem?_eq_some_iff.1 hx).1 hx ho
  unfold enterOk at h1
  rw [hr] at h1
  cases h1
end Go.Proofs.YtiogcbckhaknmaaDoor.Vf
