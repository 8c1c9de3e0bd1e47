/-
  The bound of a text, in plain words: of each instruction its steps, as often as its loops go round; no more than a lid. No conditions: plain lemmas.
-/
import Derived.Test.YtiogcbckhaknmaaDoorVfC
namespace Go.Proofs.YtiogcbckhaknmaaDoor.Vf
open Go.RowKit Go.Proofs.YtiogcbckhaknmaaDoor.W Go.Proofs.YtiogcbckhaknmaaDoor.Ints Go.Proofs.YtiogcbckhaknmaaDoor.Cod Go.Proofs.YtiogcbckhaknmaaDoor.Cell

def lidN : Nat := 1000000001
def stepsN (bs : List Nat) (x : IN) : Nat := if x.op = 16 then x.b.toNat else if x.op = 17 then 1 + bs.getD x.a.toNat 0 else 1
def prodL (L : List LP) (i : Nat) : Nat := L.foldr (fun l p => if inL l i then l.times.toNat * p else p) 1
def wF (T : List IN) (L : List LP) (bs : List Nat) (i : Nat) : Nat := match T[i]? with | some x => stepsN bs x * prodL L i | none => 0
def sumTo (T : List IN) (L : List LP) (bs : List Nat) : Nat → Nat
  | 0 => 0
  | k + 1 => sumTo T L bs k + wF T L bs k
def boundF (T : List IN) (bs : List Nat) : Nat := min (sumTo T (loopsTo T T.length) bs T.length) lidN
/-- what is asked of a text beside -/
def FitOk (T : List IN) (m : Nat) : Prop := ∀ (i : Nat) (x : IN), T[i]? = some x → (x.op = 16 → 1 ≤ x.b ∧ x.b ≤ 20000) ∧ (x.op = 17 → 0 ≤ x.a ∧ x.a < (m : Int)) ∧ (x.op = 13 → 1 ≤ x.b ∧ x.b ≤ 10000)
def TimesOk (L : List LP) : Prop := ∀ l ∈ L, 1 ≤ l.times ∧ l.times ≤ 10000
theorem times_ok {T : List IN} {m k : Nat} (h : FitOk T m) : TimesOk (loopsTo T k) := by
  intro l hl
  obtain ⟨i, x, _, hx, ho, rfl⟩ := loops_mem.1 hl
  exact (h i x hx).2.2 ho
def BsOk (bs : List Nat) : Prop := ∀ b ∈ bs, b < lidN
theorem steps_bd {T : List IN} {bs : List Nat} (h : FitOk T bs.length) (hb : BsOk bs) {i : Nat} {x : IN} (hx : T[i]? = some x) : 1 ≤ stepsN bs x ∧ stepsN bs x ≤ lidN := by
  unfold stepsN
  have h1 := h i x hx
  split
  · rename_i ho
    have := h1.1 ho
    unfold lidN
    omega
  · split
    · rename_i ho
      have := h1.2.1 ho
      rw [List.getD_eq_getElem?_getD, List.getElem?_eq_getElem (by omega)]
      have := hb _ (List.getElem_mem (l := bs) (n := x.a.toNat) (by omega))
      simp only [Option.getD_some]
      omega
    · unfold lidN
      omega
theorem prod_pos {L : List LP} (h : TimesOk L) (i : Nat) : 1 ≤ prodL L i := by
  induction L with
  | nil => simp [prodL]
  | cons l L ih =>
    have ih := ih (fun x hx => h x (List.mem_cons_of_mem _ hx))
    have hl := h l (List.mem_cons_self ..)
    show 1 ≤ (if inL l i then l.times.toNat * prodL L i else prodL L i)
    split
    · exact Nat.mul_pos (by omega) ih
    · exact ih
theorem sum_mono (T : List IN) (L : List LP) (bs : List Nat) {k m : Nat} (h : k ≤ m) : sumTo T L bs k ≤ sumTo T L bs m := by
  induction m with
  | zero =>
    obtain rfl : k = 0 := by omega
    exact Nat.le_refl _
  | succ m ih =>
    by_cases e : k = m + 1
    · rw [e]; exact Nat.le_refl _
    · exact Nat.le_trans (ih (by omega)) (Nat.le_add_right _ _)
/-! ### the reference's way: a product that stops above the lid -/
def mulL (i : Nat) (n : Nat) (l : LP) : Nat := if inL l i ∧ n < lidN then n * l.times.toNat else n
def refW (L : List LP) (i n : Nat) : Nat := L.foldl (mulL i) n
theorem ref_snoc {L : List LP} {i n j : Nat} {l : LP} (h : L[j]? = some l) : refW (L.take (j + 1)) i n = mulL i (refW (L.take j) i n) l := by
  rw [take_snoc h]
  unfold refW
  rw [List.foldl_append]
  rfl
theorem ref_le {i : Nat} : ∀ {L : List LP} {n : Nat}, TimesOk L → n ≤ 10000 * lidN → refW L i n ≤ 10000 * lidN
  | [], n, _, hn => hn
  | l :: L, n, h, hn => by
    show refW L i (mulL i n l) ≤ _
    refine ref_le (fun x hx => h x (List.mem_cons_of_mem _ hx)) ?_
    have hl := h l (List.mem_cons_self ..)
    unfold mulL
    split
    · rename_i hc
      calc n * l.times.toNat ≤ lidN * 10000 := Nat.mul_le_mul (Nat.le_of_lt hc.2) (by omega)
        _ = 10000 * lidN := Nat.mul_comm _ _
    · exact hn
theorem ref_min {i : Nat} : ∀ {L : List LP} {n : Nat}, TimesOk L → min (refW L i n) lidN = min (n * prodL L i) lidN
  | [], n, _ => by simp [refW, prodL]
  | l :: L, n, h => by
    have hL : TimesOk L := fun x hx => h x (List.mem_cons_of_mem _ hx)
    have hl := h l (List.mem_cons_self ..)
    have hp := prod_pos hL i
    show min (refW L i (mulL i n l)) lidN = min (n * (if inL l i then l.times.toNat * prodL L i else prodL L i)) lidN
    rw [ref_min hL]
    unfold mulL
    by_cases hi : inL l i
    · by_cases hn : n < lidN
      · rw [if_pos ⟨hi, hn⟩, if_pos hi, Nat.mul_assoc]
      · rw [if_neg (fun hc => hn hc.2), if_pos hi]
        have h1 : lidN ≤ n * prodL L i := Nat.le_trans (by omega) (Nat.mul_le_mul (show lidN ≤ n by omega) hp)
        have h2 : lidN ≤ n * (l.times.toNat * prodL L i) := Nat.le_trans (by omega) (Nat.mul_le_mul (show lidN ≤ n by omega) (Nat.mul_pos (show 0 < l.times.toNat by omega) hp))
        omega
    · rw [if_neg (fun hc => hi hc.1), if_neg hi]
theorem w_at {T : List IN} {L : List LP} {bs : List Nat} {i : Nat} {x : IN} (hx : T[i]? = some x) : wF T L bs i = stepsN bs x * prodL L i := by
  unfold wF
  rw [hx]
theorem ref_w {T : List IN} {L : List LP} {bs : List Nat} {i : Nat} {x : IN} (hx : T[i]? = some x) (h : TimesOk L) : min (refW L i (stepsN bs x)) lidN = min (wF T L bs i) lidN := by
  rw [ref_min h, w_at hx]
end Go.Proofs.YtiogcbckhaknmaaDoor.Vf
