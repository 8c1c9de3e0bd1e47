/-
  The keep-statements' guard, from raw numbers: plain. No conditions: plain lemmas.
-/
import Derived.Test.YtdofkakbfolpkaaSh1
namespace Go.Proofs.Ytdofkakbfolpkaa.Sf
open Go.RowKit Go.Proofs.Ytdofkakbfolpkaa.W Go.Proofs.Ytdofkakbfolpkaa.Ints Go.Proofs.Ytdofkakbfolpkaa.Pop Go.Proofs.Ytdofkakbfolpkaa.Keep

def ofF (xs : List Int) : List Int := xs.foldl (fun acc x => if pickN x 6 ∈ acc then acc else acc ++ [pickN x 6]) []
theorem of_next {xs : List Int} {k : Nat} (hk : k < xs.length) : ofF (xs.take (k + 1)) = if pickN (xs.getD k 0) 6 ∈ ofF (xs.take k) then ofF (xs.take k) else ofF (xs.take k) ++ [pickN (xs.getD k 0) 6] := by
  unfold ofF
  rw [List.take_succ_eq_append_getElem hk, List.foldl_append]
  simp [List.getD_eq_getElem?_getD, List.getElem?_eq_getElem hk]
theorem of_good (xs : List Int) : (ofF xs).Nodup ∧ ∀ x ∈ ofF xs, 0 ≤ x ∧ x < 6 := by
  refine snoc_ind (P := fun xs => (ofF xs).Nodup ∧ ∀ x ∈ ofF xs, 0 ≤ x ∧ x < 6) ⟨List.nodup_nil, by simp [ofF]⟩ ?_ xs
  intro l a ⟨h1, h2⟩
  have e : ofF (l ++ [a]) = if pickN a 6 ∈ ofF l then ofF l else ofF l ++ [pickN a 6] := by unfold ofF; rw [List.foldl_append]; rfl
  rw [e]
  split
  · exact ⟨h1, h2⟩
  · rename_i hn
    refine ⟨?_, fun x hx => ?_⟩
    · rw [List.nodup_append]
      refine ⟨h1, by simp, ?_⟩
      intro b hb c hc e
      simp only [List.mem_singleton] at hc
      subst hc e
      exact hn hb
    · rw [List.mem_append, List.mem_singleton] at hx
      rcases hx with hx | rfl
      · exact h2 x hx
      · exact pick_lt (by omega)
theorem of_len (xs : List Int) : (ofF xs).length ≤ 64 := by
  obtain ⟨h1, h2⟩ := of_good xs
  have h3 := (set_twice (m := 6) (by omega) h2).2.2 h1
  have h4 := pop_le 64 (setF (ofF xs))
  omega
def voteF (p : Int × List Int) : List (Int × List Int) := if (ofF p.2).length = 0 then [] else [(1 + pickN p.1 ((ofF p.2).length : Int), ofF p.2)]
def guardTo (ps : List (Int × List Int)) (k : Nat) : List (Int × List Int) := (2, [0, 1, 2]) :: (ps.take k).flatMap voteF
def guardP (ps : List (Int × List Int)) : List (Int × List Int) := guardTo ps (min 8 ps.length)
theorem guard_next {ps : List (Int × List Int)} {k : Nat} {p : Int × List Int} (h : ps[k]? = some p) : guardTo ps (k + 1) = guardTo ps k ++ voteF p := by
  have hk := (List.getElem?_eq_some_iff.1 h).1
  rw [List.getElem?_eq_getElem hk] at h
  injection h with h
  unfold guardTo
  rw [List.take_succ_eq_append_getElem hk, List.flatMap_append, h]
  simp
theorem vote_len (p : Int × List Int) : (voteF p).length ≤ 1 := by unfold voteF; split <;> simp
theorem guard_to_len (ps : List (Int × List Int)) : ∀ k, (guardTo ps k).length ≤ k + 1
  | 0 => by simp [guardTo]
  | k + 1 => by
    by_cases hk : k < ps.length
    · rw [guard_next (List.getElem?_eq_getElem hk), List.length_append]
      have h1 := guard_to_len ps k
      have h2 := vote_len ps[k]
      omega
    · have e : guardTo ps (k + 1) = guardTo ps k := by
        unfold guardTo
        rw [List.take_of_length_le (by omega), List.take_of_length_le (by omega)]
      rw [e]
      have := guard_to_len ps k
      omega
theorem vote_good {p q : Int × List Int} (h : q ∈ voteF p) : badV 6 q = false := by
  unfold voteF at h
  split at h
  · cases h
  · rename_i h0
    simp only [List.mem_singleton] at h
    subst h
    obtain ⟨h1, h2⟩ := of_good p.2
    have h3 : (ofF p.2).any (outB 0 6) = false := by
      rw [List.any_eq_false]
      intro x hx
      have := h2 x hx
      simp [outB]
      omega
    have h4 := pick_lt (n := p.1) (m := ((ofF p.2).length : Int)) (by omega)
    simp only [badV, codeF, if_neg h0, h3]
    rw [if_neg (by decide), if_pos h1, if_neg (by omega)]
    rfl
theorem guard_good (ps : List (Int × List Int)) (k : Nat) : (guardTo ps k).any (badV 6) = false := by
  rw [List.any_eq_false]
  intro q hq
  unfold guardTo at hq
  rw [List.mem_cons] at hq
  rcases hq with rfl | hq
  · decide
  · obtain ⟨p, _, hp⟩ := List.mem_flatMap.1 hq
    simp [vote_good hp]
theorem guard_fine {ps : List (Int × List Int)} {d : Int} (h0 : 0 ≤ d) (h1 : d < 4) : guardF 6 d (guardP ps) = (0, 0) := by
  have hl := guard_to_len ps (min 8 ps.length)
  have h2 : ¬ sizeBad 6 (guardP ps) := by
    unfold sizeBad guardP
    have : (guardTo ps (min 8 ps.length)).length ≠ 0 := by simp [guardTo]
    omega
  exact (guard_ok h2 (by omega) (guard_good ps _)).1

/-! ### the array of who is in -/
def arr (l : List Int) : Array Value := ((List.range 6).map fun (i : Nat) => Value.bool (decide ((i : Int) ∈ l))).toArray
theorem arr_nil : arr [] = #[.bool false, .bool false, .bool false, .bool false, .bool false, .bool false] := by rfl
theorem arr_at (l : List Int) {y : Nat} (hy : y < 6) : (arr l)[y]? = some (.bool (decide ((y : Int) ∈ l))) := by
  simp [arr, hy]
theorem arr_set (l l' : List Int) {y : Nat} (_hy : y < 6) (h : ∀ i : Nat, ((i : Int) ∈ l') ↔ ((i : Int) ∈ l ∨ i = y)) : (arr l).setIfInBounds y (.bool true) = arr l' := by
  refine Array.ext (by simp [arr]) fun i h1 h2 => ?_
  have h4 : i < (arr l).size := by simpa using h1
  rw [Array.getElem_setIfInBounds h4]
  simp only [arr, List.getElem_toArray, List.getElem_map, List.getElem_range]
  by_cases h3 : y = i
  · subst h3
    rw [if_pos rfl]
    simp [h]
  · rw [if_neg h3]
    congr 1
    rw [Bool.eq_iff_iff]
    simp only [decide_eq_true_eq]
    rw [h i]
    constructor
    · exact fun h => .inl h
    · rintro (h | h)
      · exact h
      · exact absurd h.symm h3

/-! ### rows of votes of the call's own -/
def VD.apart (u v : VD) : Prop := ∀ a b, u.A = some a → v.A = some b → a.block ≠ b.block
def FrO (base gx : Nat) (B : Option Addr) (us : List VD) (w : World) : Prop :=
  ∀ u ∈ us, w.ownsRow base 3 1 (.slice u.A u.n u.c) u.n (ints u.of) ∧ u.n * 8 ≤ 140737488351232 ∧ ∀ a, u.A = some a → base ≤ a.block ∧ a.block < w.heap.size ∧ a.block ≠ gx ∧ ∀ b, B = some b → a.block ≠ b.block
section
variable {base gx : Nat} {B B' : Option Addr} {us : List VD} {w w' : World}
theorem FrO.below (h : FrO base gx B us w) (hb : Below w.heap.size w w') : FrO base gx B us w' := fun u hu =>
  ⟨own_below (h u hu).1 hb, (h u hu).2.1, fun a ha => ⟨((h u hu).2.2 a ha).1, Nat.lt_of_lt_of_le ((h u hu).2.2 a ha).2.1 hb.size, ((h u hu).2.2 a ha).2.2⟩⟩
theorem FrO.drew (h : FrO base gx B us w) : FrO base gx B us w.drew := fun u hu => ⟨(h u hu).1.drew, (h u hu).2⟩
theorem own_block {v : VD} {g : Nat} (h : (Value.slice v.A v.n v.c).ownBlock = some g) : ∃ a, v.A = some a ∧ a.block = g := by
  cases hA : v.A with
  | none => rw [hA] at h; simp [Value.ownBlock] at h
  | some a => rw [hA] at h; exact ⟨a, rfl, by simpa [Value.ownBlock] using h⟩
theorem FrO.grown {n c n' c' : Nat} (h : FrO base gx B us w) (hg : w.grownBy w' (Value.slice B n c).ownBlock)
    (hat : (Value.slice B' n' c').ownBlock = (Value.slice B n c).ownBlock ∨ (Value.slice B' n' c').ownBlock = some w.heap.size) : FrO base gx B' us w' := fun u hu => by
  obtain ⟨h1, h2, h4⟩ := h u hu
  refine ⟨own_grown h1 hg ?_, h2, fun a ha => ?_⟩
  · intro g hgu e
    obtain ⟨a, ha, hag⟩ := own_block hgu
    obtain ⟨_, _, _, hn⟩ := h4 a ha
    cases B with
    | none => simp [Value.ownBlock] at e
    | some b =>
      have : g = b.block := by simpa [Value.ownBlock] using e
      exact hn b rfl (hag.trans this)
  · obtain ⟨p1, p2, p4, p3⟩ := h4 a ha
    refine ⟨p1, Nat.lt_of_lt_of_le p2 hg.size, p4, fun b hb e => ?_⟩
    subst hb
    rcases hat with hat | hat
    · cases B with
      | none => simp [Value.ownBlock] at hat
      | some b' =>
        have : b.block = b'.block := by simpa [Value.ownBlock] using hat
        exact p3 b' rfl (e.trans this)
    · have : b.block = w.heap.size := by simpa [Value.ownBlock] using hat
      omega
theorem FrO.snoc {u : VD} (h : FrO base gx B us w) (hu : FrO base gx B [u] w) : FrO base gx B (us ++ [u]) w := fun x hx => by
  rw [List.mem_append] at hx
  rcases hx with hx | hx
  · exact h x hx
  · exact hu x hx
theorem FrO.setG (h : FrO base gx B us w) (i : Nat) (x : Value) : FrO base gx B us (w.setCell ⟨gx, i, none⟩ x) := fun u hu => by
  obtain ⟨h1, h2, h4⟩ := h u hu
  refine ⟨own_grown h1 (grow_setCell w _ x) ?_, h2, fun a ha => ⟨(h4 a ha).1, ?_, (h4 a ha).2.2⟩⟩
  · intro g hgu e
    obtain ⟨a, ha, hag⟩ := own_block hgu
    injection e with e
    exact (h4 a ha).2.2.1 (hag.trans e)
  · have := (h4 a ha).2.1
    simpa using this
theorem FrO.low (h : FrO base gx B us w) {p : Addr} (hp : p.block < base) (x : Value) : FrO base gx B us (w.setCell p x) := fun u hu => by
  obtain ⟨h1, h2, h4⟩ := h u hu
  refine ⟨ownsRow_setCell_below h1 hp x, h2, fun a ha => ⟨(h4 a ha).1, ?_, (h4 a ha).2.2⟩⟩
  have := (h4 a ha).2.1
  simpa using this
theorem FrO.rd {n c : Nat} (h : FrO base gx B us w) (ho : w.ownsRow base 50 2 (.slice B n c) n (votesV us)) : GRd w B n us :=
  ⟨Rd.own ho, fun u hu => ⟨Rd.own (h u hu).1, (h u hu).2.1, (own_shape (h u hu).1).elim fun A h => h.elim fun c h => by
    obtain ⟨e, h1, _⟩ := h
    injection e with _ _ e3
    rw [e3]
    exact h1⟩⟩
end
end Go.Proofs.Ytdofkakbfolpkaa.Sf
