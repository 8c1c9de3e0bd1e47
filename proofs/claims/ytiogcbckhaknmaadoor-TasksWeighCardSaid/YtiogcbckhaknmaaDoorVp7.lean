/-
  The program's bound, in plain words: products of what is open. No conditions: plain lemmas.
-/
import Derived.Test.YtiogcbckhaknmaaDoorVfH
namespace Go.Proofs.YtiogcbckhaknmaaDoor.Vf
open Go.RowKit Go.Proofs.YtiogcbckhaknmaaDoor.W Go.Proofs.YtiogcbckhaknmaaDoor.Ints Go.Proofs.YtiogcbckhaknmaaDoor.Cod Go.Proofs.YtiogcbckhaknmaaDoor.Cell

def pT (O : List LP) : Nat := O.foldr (fun l p => l.times.toNat * p) 1
def cT (O : List LP) : Nat := min (pT O) lidN
theorem pT_snoc (O : List LP) (l : LP) : pT (O ++ [l]) = pT O * l.times.toNat := by
  induction O with
  | nil => simp [pT]
  | cons a O ih =>
    show a.times.toNat * pT (O ++ [l]) = a.times.toNat * pT O * l.times.toNat
    rw [ih, Nat.mul_assoc]
theorem pT_pos {O : List LP} (h : TimesOk O) : 1 ≤ pT O := by
  induction O with
  | nil => simp [pT]
  | cons a O ih =>
    have h1 := h a (List.mem_cons_self ..)
    have h2 := ih (fun x hx => h x (List.mem_cons_of_mem _ hx))
    exact Nat.mul_pos (show 0 < a.times.toNat by omega) h2
theorem cap_mul (a b : Nat) (hb : 1 ≤ b) : min (min a lidN * b) lidN = min (a * b) lidN := by
  rcases Nat.lt_or_ge a lidN with h | h
  · rw [Nat.min_eq_left (Nat.le_of_lt h)]
  · rw [Nat.min_eq_right h]
    have h1 : lidN ≤ lidN * b := Nat.le_mul_of_pos_right _ hb
    have h2 : lidN ≤ a * b := Nat.le_trans h (Nat.le_mul_of_pos_right _ hb)
    omega
theorem cT_snoc (O : List LP) (l : LP) (hl : 1 ≤ l.times.toNat) : cT (O ++ [l]) = min (cT O * l.times.toNat) lidN := by
  unfold cT
  rw [pT_snoc, cap_mul _ _ hl]
theorem cT_le (O : List LP) : cT O ≤ lidN := Nat.min_le_right _ _
theorem cT_pos {O : List LP} (h : TimesOk O) : 1 ≤ cT O := by
  have := pT_pos h
  unfold cT lidN
  omega
/-- the weights: what held ahead of each open loop -/
def wts (O : List LP) : List Nat := (List.range O.length).map fun j => cT (O.take j)
theorem wts_len (O : List LP) : (wts O).length = O.length := by simp [wts]
theorem wts_snoc (O : List LP) (l : LP) : wts (O ++ [l]) = wts O ++ [cT O] := by
  unfold wts
  rw [List.length_append, List.length_singleton, List.range_succ, List.map_append]
  congr 1
  · refine List.map_congr_left fun j hj => ?_
    rw [List.take_append_of_le_length (Nat.le_of_lt (List.mem_range.1 hj))]
  · simp
theorem wts_take (O : List LP) (j : Nat) (hj : j ≤ O.length) : (wts O).take j = wts (O.take j) := by
  unfold wts
  rw [← List.map_take, List.take_range, Nat.min_eq_left hj, List.length_take, Nat.min_eq_left hj]
  refine List.map_congr_left fun i hi => ?_
  rw [List.take_take, Nat.min_eq_left (Nat.le_of_lt (List.mem_range.1 hi))]
theorem wts_at (O : List LP) (j : Nat) (hj : j < O.length) : (wts O)[j]? = some (cT (O.take j)) := by
  unfold wts
  simp [hj]
/-! ### what is open -/
theorem open_dec {T : List IN} (h : LoopsOk T) (i : Nat) (hi : i ≤ T.length) : Dec (openAt T i i) := by
  have hsub : ∀ m, i ≤ m → (loopsTo T i).Sublist (loopsTo T m) := by
    intro m hm
    induction m with
    | zero =>
      obtain rfl : i = 0 := by omega
      exact List.Sublist.refl _
    | succ m ih =>
      by_cases e2 : i = m + 1
      · rw [e2]; exact List.Sublist.refl _
      · exact (ih (by omega)).trans (List.sublist_append_left _ _)
  have hp := (h.pairs.sublist (hsub _ hi)).sublist (List.filter_sublist (p := fun l : LP => decide (i ≤ l.to)))
  refine List.Pairwise.imp_of_mem (fun {a b} ha hb hab => ?_) hp
  have h1 := (List.mem_filter.1 ha).2
  have h2 := (loops_fr (List.mem_filter.1 hb).1).2
  simp only [decide_eq_true_eq] at h1
  rcases hab with h3 | h3
  · omega
  · exact h3.1
theorem open_next {T : List IN} {i : Nat} {x : IN} (h : LoopsOk T) (hx : T[i]? = some x) : openAt T (i + 1) (i + 1) = openAt T i (i + 1) ++ loopAt T i := by
  have hi := (List.getElem?_eq_some_iff.1 hx).1
  show (loopsTo T i ++ loopAt T i).filter _ = _
  rw [List.filter_append]
  congr 1
  rw [List.filter_eq_self]
  intro l hl
  unfold loopAt at hl
  rw [hx] at hl
  split at hl
  · rename_i x' hx'
    obtain rfl := Option.some.inj hx'
    split at hl
    · rename_i ho
      obtain rfl := List.mem_singleton.1 hl
      have h1 := h.enters i x hi hx ho
      unfold enterOk at h1
      split at h1
      · rename_i r hr
        simp only [Bool.and_eq_true, decide_eq_true_eq] at h1
        unfold loopOf
        rw [hr]
        simpa using h1.1
      · cases h1
    · cases hl
  · cases hl
theorem prod_open {T : List IN} {i n : Nat} (hi : i ≤ n) : prodL (loopsTo T n) i = pT (openAt T i i) := by
  have base : prodL (loopsTo T i) i = pT (openAt T i i) := by
    have key : ∀ L : List LP, (∀ l ∈ L, l.fr ≤ i) → prodL L i = pT (L.filter fun l => decide (i ≤ l.to)) := by
      intro L
      induction L with
      | nil => intro _; rfl
      | cons l L ih =>
        intro h
        have h1 := ih (fun x hx => h x (List.mem_cons_of_mem _ hx))
        have h2 := h l (List.mem_cons_self ..)
        show (if inL l i then l.times.toNat * prodL L i else prodL L i) = _
        rw [h1]
        by_cases hc : i ≤ l.to
        · rw [if_pos ⟨by omega, by omega⟩, List.filter_cons_of_pos (by simpa using hc)]
          rfl
        · rw [if_neg (fun h3 => hc (by have := h3.2; omega)), List.filter_cons_of_neg (by simpa using hc)]
    exact key _ (fun l hl => (loops_fr hl).2)
  have step : ∀ m, i ≤ m → prodL (loopsTo T m) i = prodL (loopsTo T i) i := by
    intro m
    induction m with
    | zero =>
      intro hm
      obtain rfl : i = 0 := by omega
      rfl
    | succ m ih =>
      intro hm
      by_cases e : i = m + 1
      · rw [e]
      · rw [← ih (by omega)]
        have app : ∀ (L M : List LP), (∀ l ∈ M, ¬ inL l i) → prodL (L ++ M) i = prodL L i := by
          intro L M hM
          induction L with
          | nil =>
            induction M with
            | nil => rfl
            | cons a M ihM =>
              show (if inL a i then a.times.toNat * prodL M i else prodL M i) = _
              rw [if_neg (hM a (List.mem_cons_self ..))]
              exact ihM (fun l hl => hM l (List.mem_cons_of_mem _ hl))
          | cons a L ihL =>
            show (if inL a i then a.times.toNat * prodL (L ++ M) i else prodL (L ++ M) i) = (if inL a i then a.times.toNat * prodL L i else prodL L i)
            rw [ihL]
        refine app _ _ fun l hl h3 => ?_
        have h4 : l ∈ loopsTo T (m + 1) := List.mem_append_right _ hl
        have h5 : l.fr = m + 1 := by
          unfold loopAt at hl
          split at hl
          · split at hl
            · obtain rfl := List.mem_singleton.1 hl; rfl
            · cases hl
          · cases hl
        have := h3.1
        omega
  rw [step n hi, base]
theorem sum_cap {s w : Nat} : min (min s lidN + min w lidN) lidN = min (s + w) lidN := by omega
end Go.Proofs.YtiogcbckhaknmaaDoor.Vf
