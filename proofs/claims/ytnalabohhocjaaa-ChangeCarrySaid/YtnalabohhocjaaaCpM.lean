/-
  copy into a part of a row of the call's own: all the rest stays. Conditions: what is copied reads; it has its place.
-/
import Derived.Test.YtnalabohhocjaaaMem
import Derived.Laws.CopyOwn
namespace Go.Proofs.Ytnalabohhocjaaa.W
open Go.RowKit

theorem take_splice {cur : List Value} {n off : Nat} {cs : List Value} (hn : n ≤ cur.length) (hf : off + cs.length ≤ n) : (cur.take off ++ cs ++ cur.drop (off + cs.length)).take n = (cur.take n).take off ++ cs ++ (cur.take n).drop (off + cs.length) := by
  apply List.ext_getElem?
  intro i
  have l1 : (cur.take off).length = off := by simp; omega
  have l2 : ((cur.take n).take off).length = off := by simp; omega
  by_cases h1 : i < off
  · rw [List.getElem?_take_of_lt (by omega), List.append_assoc, List.append_assoc, List.getElem?_append_left (by omega), List.getElem?_append_left (by omega), List.getElem?_take_of_lt h1, List.getElem?_take_of_lt h1, List.getElem?_take_of_lt (by omega)]
  · by_cases h2 : i < off + cs.length
    · rw [List.getElem?_take_of_lt (by omega), List.append_assoc, List.append_assoc, List.getElem?_append_right (l₁ := cur.take off) (by omega), List.getElem?_append_right (l₁ := (cur.take n).take off) (by omega), l1, l2, List.getElem?_append_left (l₁ := cs) (by omega), List.getElem?_append_left (l₁ := cs) (by omega)]
    · by_cases h3 : i < n
      · rw [List.getElem?_take_of_lt h3, List.append_assoc, List.append_assoc, List.getElem?_append_right (l₁ := cur.take off) (by omega), List.getElem?_append_right (l₁ := (cur.take n).take off) (by omega), l1, l2, List.getElem?_append_right (l₁ := cs) (by omega), List.getElem?_append_right (l₁ := cs) (by omega), List.getElem?_drop, List.getElem?_drop, List.getElem?_take_of_lt (by omega)]
      · rw [List.getElem?_eq_none (by simp; omega), List.getElem?_eq_none (by simp; omega)]

theorem run_copy_mem {w0 w : World} {Ks : List Box} {Os : List Row} {P : Program} (dT sT ty : TypeId) (e : TypeId) (hu : P.underlying dT = some (.slice e)) (hsz : (P.info? e).map (·.size) = some 1)
    {g n c : Nat} {xs : List Value} (hm : Mem w0 w Ks (⟨e, 1, some ⟨g, 0, none⟩, n, c, xs⟩ :: Os)) (off dLen dCap : Nat) (ad : Addr) (sLen sCap : Nat)
    (cs : List Value) (hn : cs.length = Nat.min sLen dLen) (hsrc : ∀ j v, cs[j]? = some v → w.cell? (ad.add j) = some v) (hfit : off + cs.length ≤ n) (h1 : ∀ v ∈ cs, v.oneCell' = true) :
    ∃ w', (Builtin.copy_ #[dT, sT] ty #[.slice (some ⟨g, off, none⟩) dLen dCap, .slice (some ad) sLen sCap]).run P w = .ok (goInt cs.length) w' ∧ w.grownBy w' (some g) ∧ Mem w0 w' Ks (⟨e, 1, some ⟨g, 0, none⟩, n, c, xs.take off ++ cs ++ xs.drop (off + cs.length)⟩ :: Os) := by
  obtain ⟨hl, h2⟩ := hm.own _ (List.mem_cons_self ..)
  dsimp only at hl h2
  rcases h2 with ⟨hv, _⟩ | ⟨g', cap, cur, hv, hb, hh, hnc, hcm, hcs, htk⟩
  · cases hv
  · obtain ⟨rfl, rfl⟩ : g = g' ∧ c = cap := by
      injection hv with v1 v2 v3
      injection v1 with v1
      injection v1 with v1
      exact ⟨v1, v3⟩
    have hcl : cur.toList.length = c := by rw [Array.length_toList, hcs]; omega
    have hrun := run_copy_row (P := P) w dT sT ty e g off dLen dCap ad sLen sCap cur e cs hu hsz hh hn hsrc (by rw [hcs]; omega) h1
    have hg : w.grownBy (w.setRow g (cur.toList.take off ++ cs ++ cur.toList.drop (off + cs.length)).toArray) (some g) := ⟨rfl, rfl, rfl, by simp, fun k _ hne => setRow_other w g k _ (fun e => hne (by rw [e]))⟩
    exact ⟨_, hrun, hg, hm.grow (A' := some ⟨g, 0, none⟩) (n' := n) (c' := c) (ys := xs.take off ++ cs ++ xs.drop (off + cs.length)) hg
      ⟨by simp; omega, .inr ⟨g, c, _, rfl, hb, setRow_heap w g _ _ e _ hh, hnc, hcm, by simp; omega, by
        rw [List.toList_toArray, ← htk, Nat.mul_one]
        exact take_splice (by omega) hfit⟩⟩ (.inl rfl)⟩
end Go.Proofs.Ytnalabohhocjaaa.W
