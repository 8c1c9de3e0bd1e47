/-
  An argument that is a slice of records opened: the records read, and nothing in them is beyond the reach. No conditions: plain lemmas.
-/
import Derived.Test.YtiogcbckhaknmaaDoorO
import Derived.Test.YtiogcbckhaknmaaDoorRec
namespace Go.Proofs.YtiogcbckhaknmaaDoor.O
open Go.RowKit Go.Proofs.YtiogcbckhaknmaaDoor.W

theorem flat_inv {α : Type} {f : α → List Value} {sz : Nat} (hf : ∀ a, (f a).length = sz) (h0 : 0 < sz) {xs : List α} {j : Nat} {u : Value} (h : (xs.flatMap f)[j]? = some u) :
    ∃ k x i, j = k * sz + i ∧ i < sz ∧ xs[k]? = some x ∧ (f x)[i]? = some u := by
  have hj := (List.getElem?_eq_some_iff.1 h).1
  rw [flat_len hf] at hj
  have hk : j / sz < xs.length := Nat.div_lt_of_lt_mul (by rwa [Nat.mul_comm] at hj)
  have hm : j % sz < sz := Nat.mod_lt _ h0
  have he : j = j / sz * sz + j % sz := by rw [Nat.mul_comm]; exact (Nat.div_add_mod j sz).symm
  refine ⟨j / sz, xs[j / sz], j % sz, he, hm, List.getElem?_eq_getElem hk, ?_⟩
  rw [he, flat_at hf xs _ _ _ (List.getElem?_eq_getElem hk) hm] at h
  exact h

theorem Op.recs {H : Type} {enc : TypeId × Value → H} {P : Program} {w : World} {α : Type} {f : α → List Value} {sz bt : Nat} {Pr : α → Prop} (hf : ∀ a, (f a).length = sz) (h0 : 0 < sz) (a0 : α) {t e : TypeId} {cs : List Value}
    (h : Op enc P w t cs) (ht : P.underlying t = some (.slice e)) (hc : P.cellsOf e = sz) (hb : P.bytesOf e = bt) (he : ∀ cs', Op enc P w e cs' → ∃ a, cs' = f a ∧ Pr a) :
    ∃ (A : Option Addr) (n c : Nat) (xs : List α), cs = [.slice A n c] ∧ n ≤ c ∧ c * bt ≤ 140737488351232 ∧ Rd w sz A n (xs.flatMap f) ∧ (∀ x ∈ xs, Pr x) ∧ (∀ a, A = some a → 0 < n → a.block < w.heap.size) := by
  rcases h.slice ht with rfl | ⟨a, len, cap, rfl, hlc, hcm, hr, hcell⟩
  · exact ⟨none, 0, 0, [], rfl, Nat.le_refl _, by omega, Rd.nil _ _ _, by simp, fun a h => by cases h⟩
  · rw [hb] at hr
    rw [hc] at hcell
    have hex : ∀ i, i < cap → ∃ x, w.cells? 0 (a.add (i * sz)) sz = some (f x) ∧ Pr x := by
      intro i hi
      obtain ⟨cs', h1, h2⟩ := hcell i hi
      obtain ⟨x, rfl, hx⟩ := he cs' h2
      exact ⟨x, h1, hx⟩
    have hcl : ∃ g : Nat → α, ∀ i, i < cap → w.cells? 0 (a.add (i * sz)) sz = some (f (g i)) ∧ Pr (g i) := by
      refine ⟨fun i => if h : i < cap then (hex i h).choose else a0, fun i hi => ?_⟩
      simp only [hi, dif_pos]
      exact (hex i hi).choose_spec
    obtain ⟨g, hg⟩ := hcl
    have hfst : 0 < len → ∃ u, w.cell? a = some u := by
      intro hn
      obtain ⟨_, hl, hc0⟩ := World.cells?_some (hg 0 (by omega)).1
      have := hc0 0 (by omega)
      rw [List.getElem?_eq_getElem (by omega)] at this
      rw [show (a.add (0 * sz)).add 0 = a from by simp [Addr.add]] at this
      exact ⟨_, this⟩
    refine ⟨some a, len, cap, (List.range len).map g, rfl, hlc, by simpa [reachBytes] using hr, ⟨by rw [flat_len hf]; simp, fun hn => ?_⟩, ?_, fun a' ha' hn => ?_⟩
    · obtain ⟨u0, hu0⟩ := hfst (by omega)
      obtain ⟨b, o, rfl⟩ := spot_none hu0
      refine ⟨b, o, rfl, fun j u hu => ?_⟩
      obtain ⟨k, x, i, rfl, hi, hx, hxi⟩ := flat_inv hf h0 hu
      have hk : k < len := by
        have := (List.getElem?_eq_some_iff.1 hx).1
        simpa using this
      simp [List.getElem?_map, List.getElem?_range hk] at hx
      subst hx
      obtain ⟨_, hl, hc0⟩ := World.cells?_some (hg k (by omega)).1
      have h1 := hc0 i hi
      have hadd : ((⟨b, o, none⟩ : Addr).add (k * sz)).add i = ⟨b, o + (k * sz + i), none⟩ := by
        have ha : ∀ (x : Nat) (o : Nat), (⟨b, o, none⟩ : Addr).add x = ⟨b, o + x, none⟩ := fun x o => by
          unfold Addr.add
          split <;> simp_all
        rw [ha, ha, Nat.add_assoc]
      rw [hadd] at h1
      rw [h1, hxi]
    · intro z hz
      obtain ⟨i, hi, rfl⟩ := List.mem_map.1 hz
      exact (hg i (by have := List.mem_range.1 hi; omega)).2
    · injection ha' with e1
      subst e1
      obtain ⟨u0, hu0⟩ := hfst (by omega)
      exact World.block_lt_of_cell? w _ hu0
end Go.Proofs.YtiogcbckhaknmaaDoor.O
