/-
  Rounds and loops, step by step. No conditions: plain lemmas.
-/
import Derived.Test.YtiogcbckhaknmaaDoorVp1
namespace Go.Proofs.YtiogcbckhaknmaaDoor.Vf
open Go.RowKit Go.Proofs.YtiogcbckhaknmaaDoor.W Go.Proofs.YtiogcbckhaknmaaDoor.Ints Go.Proofs.YtiogcbckhaknmaaDoor.Cod

def foundI (F : Option Nat) : Int := match F with | some f => (f : Int) | none => -1
theorem take_snoc {α : Type} {T : List α} {k : Nat} {x : α} (h : T[k]? = some x) : T.take (k + 1) = T.take k ++ [x] := by
  rw [List.take_add_one, h]
  rfl
theorem rounds_snoc {T : List IN} {k : Nat} {x : IN} (h : T[k]? = some x) : roundsF (T.take (k + 1)) = roundsF (T.take k) ++ (if x.op = 14 then [x.b] else []) := by
  rw [take_snoc h]
  unfold roundsF
  rw [List.filter_append, List.map_append]
  by_cases hx : x.op = 14 <;> simp [hx]
theorem rounds_le (T : List IN) (k : Nat) : (roundsF (T.take k)).length ≤ k := by
  unfold roundsF
  rw [List.length_map]
  exact Nat.le_trans (List.length_filter_le _ _) (by simp; omega)
theorem round_snoc {T : List IN} {k : Nat} {y : IN} (h : T[k]? = some y) (e : Int) : roundAt (T.take (k + 1)) e = match roundAt (T.take k) e with | some f => some f | none => if y.op = 14 ∧ y.b = e then some k else none := by
  have hk := (List.getElem?_eq_some_iff.1 h).1
  rw [take_snoc h]
  unfold roundAt
  rw [List.findIdx?_append]
  cases hf : (T.take k).findIdx? (fun x => x.op == 14 && x.b == e) with
  | some f => simp
  | none =>
    by_cases hy : y.op = 14 ∧ y.b = e
    · simp [hy.1, hy.2, List.findIdx?_cons]
      omega
    · simp only [Option.none_or, List.findIdx?_cons]
      have : (y.op == 14 && y.b == e) = false := by
        simp only [Bool.and_eq_false_iff, beq_eq_false_iff_ne, ne_eq]
        by_cases h1 : y.op = 14
        · exact .inr fun h2 => hy ⟨h1, h2⟩
        · exact .inl h1
      simp [this, hy]
theorem round_pre {T : List IN} {k f : Nat} {e : Int} (h : roundAt (T.take k) e = some f) : roundAt T e = some f := by
  have : T = T.take k ++ T.drop k := (List.take_append_drop k T).symm
  have h2 : roundAt (T.take k ++ T.drop k) e = some f := by
    unfold roundAt at h ⊢
    rw [List.findIdx?_append, h]
    rfl
  rwa [← this] at h2
theorem enters_snoc {T : List IN} {k : Nat} {x : IN} (h : entersOk T k) (hx : T[k]? = some x) (he : x.op = 13 → enterOk T k x = true) : entersOk T (k + 1) := by
  intro i y hi hy ho
  by_cases hk : i < k
  · exact h i y hk hy ho
  · obtain rfl : i = k := by omega
    rw [hx] at hy
    obtain rfl := Option.some.inj hy
    exact he ho
theorem enters_zero (T : List IN) : entersOk T 0 := fun i x hi => by omega
/-- pairs, up to a place -/
def PairsTo (L : List LP) (i : Nat) : Prop := ∀ (i' j' : Nat) (a b : LP), i' < i → i' < j' → L[i']? = some a → L[j']? = some b → pairOk a b
def PairsAt (L : List LP) (i j : Nat) : Prop := ∀ (j' : Nat) (a b : LP), i < j' → j' < j → L[i]? = some a → L[j']? = some b → pairOk a b
theorem pairs_zero (L : List LP) : PairsTo L 0 := fun i' j' a b hi => by omega
theorem pairs_start (L : List LP) (i : Nat) : PairsAt L i (i + 1) := fun j' a b h1 h2 => by omega
theorem pairs_next {L : List LP} {i : Nat} (h : PairsTo L i) (k : PairsAt L i L.length) : PairsTo L (i + 1) := by
  intro i' j' a b hi hj ha hb
  by_cases hlt : i' < i
  · exact h i' j' a b hlt hj ha hb
  · obtain rfl : i' = i := by omega
    exact k j' a b hj (List.getElem?_eq_some_iff.1 hb).1 ha hb
theorem pairs_step {L : List LP} {i j : Nat} {a b : LP} (k : PairsAt L i j) (ha : L[i]? = some a) (hb : L[j]? = some b) (hp : pairOk a b) : PairsAt L i (j + 1) := by
  intro j' a' b' h1 h2 ha' hb'
  by_cases hlt : j' < j
  · exact k j' a' b' h1 hlt ha' hb'
  · obtain rfl : j' = j := by omega
    rw [ha] at ha'
    rw [hb] at hb'
    obtain rfl := Option.some.inj ha'
    obtain rfl := Option.some.inj hb'
    exact hp
theorem pairs_all {L : List LP} (h : PairsTo L L.length) : L.Pairwise pairOk := by
  rw [List.pairwise_iff_getElem]
  intro i j hi hj hij
  exact h i j _ _ hi hij (List.getElem?_eq_getElem hi) (List.getElem?_eq_getElem hj)
theorem pairs_bad {L : List LP} {i j : Nat} {a b : LP} (hij : i < j) (ha : L[i]? = some a) (hb : L[j]? = some b) (hp : ¬ pairOk a b) : ¬ L.Pairwise pairOk := by
  intro h
  rw [List.pairwise_iff_getElem] at h
  obtain ⟨hi, ei⟩ := List.getElem?_eq_some_iff.1 ha
  obtain ⟨hj, ej⟩ := List.getElem?_eq_some_iff.1 hb
  have := h i j hi hj hij
  rw [ei, ej] at this
  exact hp this
/-- the k-th loop of a row -/
theorem loop_at {w : World} {A : Option Addr} {n : Nat} {l : List LP} (h : Rd w 4 A n (loopsV l)) {k : Nat} (hk : k < n) :
    ∃ b o s, A = some ⟨b, o, none⟩ ∧ l[k]? = some s ∧ b < w.heap.size ∧ w.cell? ⟨b, o + k * 4, none⟩ = some (.int .i64 s.fr) ∧ w.cell? ⟨b, o + k * 4 + 1, none⟩ = some (.int .i64 s.to) ∧ w.cell? ⟨b, o + k * 4 + 2, none⟩ = some (.int .i64 s.counter) ∧ w.cell? ⟨b, o + k * 4 + 3, none⟩ = some (.int .i64 s.times) := by
  have hl := Rd.rec_len LP.size (by omega) h
  obtain ⟨b, o, e, hc⟩ := Rd.rec LP.size h (by omega)
  have hv : l[k]? = some l[k] := List.getElem?_eq_getElem (by omega)
  have c := hc k _ hv
  have c0 := c 0 _ rfl
  refine ⟨b, o, l[k], e, hv, lt_of_cell c0, c0, ?_, ?_, ?_⟩
  · rw [Nat.add_assoc]; exact c 1 _ rfl
  · rw [Nat.add_assoc]; exact c 2 _ rfl
  · rw [Nat.add_assoc]; exact c 3 _ rfl
theorem loops_one {l : List LP} : ∀ u ∈ loopsV l, u.oneCell' = true := by
  intro u hu
  obtain ⟨s, _, hs⟩ := List.mem_flatMap.1 hu
  simp only [LP.cs, List.mem_cons, List.not_mem_nil, or_false] at hs
  rcases hs with rfl | rfl | rfl | rfl <;> rfl
theorem loopsV_snoc (L : List LP) (l : LP) : loopsV L ++ l.cs = loopsV (L ++ [l]) := by simp [loopsV]
end Go.Proofs.YtiogcbckhaknmaaDoor.Vf
