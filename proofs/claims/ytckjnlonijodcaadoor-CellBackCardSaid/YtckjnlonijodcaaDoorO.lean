/-
  An argument opened to its cells, whatever its type: a reading, with the form's own reach. No conditions: plain lemmas.
-/
import Derived.Test.YtckjnlonijodcaaDoorW
import Derived.ProofKit
import Derived.OpenShut
import Derived.SizedLaws
import Derived.ChangeArms
namespace Go.Proofs.YtckjnlonijodcaaDoor.O
open Go.RowKit Go.Proofs.YtckjnlonijodcaaDoor.W

section
variable {H : Type} {enc : TypeId × Value → H} {P : Program} {w : World}

/-- the cells cs, at type t, can be read, and nothing in them is beyond the reach -/
def Op (enc : TypeId × Value → H) (P : Program) (w : World) (t : TypeId) (cs : List Value) : Prop :=
  ∃ (fuel : Nat) (x : DataW H × List MemPlace), DataW.trod enc P w 0 (fun _ => true) true fuel t cs = some x ∧ ∀ n ∈ x.1.weights P t, n ≤ reachBytes

theorem weights_mem_all {e : TypeId} : ∀ {ds : List (DataW H)} {d : DataW H}, d ∈ ds → ∀ n ∈ d.weights P e, n ∈ DataW.weightsAll P e ds
  | x :: r, d, hd, n, hn => by
    simp only [DataW.weightsAll, List.mem_append]
    rcases List.mem_cons.1 hd with rfl | h
    · exact Or.inl hn
    · exact Or.inr (weights_mem_all h n hn)

theorem Op.of {t : TypeId} {v : Value} {d : DataW H} {p : List MemPlace} {ts : List TypeId} {ds : List (DataW H)} {j : Nat} (h : DataW.Trod enc P w 0 (fun _ => true) true t v d p)
    (hsz : (DataW.weightsEach P ts ds).all (· ≤ reachBytes) = true) (ht : ts[j]? = some t) (hd : ds[j]? = some d) : Op enc P w t v.cells.toList := by
  obtain ⟨fuel, hf⟩ := h
  refine ⟨fuel, _, hf, fun n hn => ?_⟩
  have := List.all_eq_true.1 hsz n (DataW.weights_mem_each ht hd n hn)
  simpa using this

theorem Op.int {t : TypeId} {k : IntKind} {cs : List Value} (h : Op enc P w t cs) (ht : P.underlying t = some (.int k)) : ∃ n, cs = [.int k n] ∧ (Lit.int k n).wf = true := by
  obtain ⟨fuel, x, hx, _⟩ := h
  obtain ⟨n, h1, _, h2⟩ := DataW.trod_int ht hx
  exact ⟨n, h1, h2⟩
theorem Op.i64 {t : TypeId} {cs : List Value} (h : Op enc P w t cs) (ht : P.underlying t = some (.int .i64)) : ∃ n : Int, cs = [.int .i64 n] ∧ -9223372036854775808 ≤ n ∧ n ≤ 9223372036854775807 := by
  obtain ⟨n, h1, h2⟩ := h.int ht
  exact ⟨n, h1, by simpa [Lit.wf, IntKind.min, IntKind.max, IntKind.signed, IntKind.bits] using h2⟩
theorem Op.u8 {t : TypeId} {cs : List Value} (h : Op enc P w t cs) (ht : P.underlying t = some (.int .u8)) : ∃ n : Int, cs = [.int .u8 n] ∧ 0 ≤ n ∧ n ≤ 255 := by
  obtain ⟨n, h1, h2⟩ := h.int ht
  exact ⟨n, h1, by simpa [Lit.wf, IntKind.min, IntKind.max, IntKind.signed, IntKind.bits] using h2⟩
theorem Op.bool {t : TypeId} {cs : List Value} (h : Op enc P w t cs) (ht : P.underlying t = some .bool) : ∃ b, cs = [.bool b] := by
  obtain ⟨fuel, x, hx, _⟩ := h
  obtain ⟨b, h1, _⟩ := DataW.trod_bool ht hx
  exact ⟨b, h1⟩
theorem Op.string {t : TypeId} {cs : List Value} (h : Op enc P w t cs) (ht : P.underlying t = some .string) : ∃ s : ByteArray, cs = [.string s] ∧ s.size ≤ reachBytes := by
  obtain ⟨fuel, x, hx, hw⟩ := h
  obtain ⟨s, h1, rfl, _⟩ := DataW.trod_string ht hx
  refine ⟨s, h1, ?_⟩
  have := hw s.data.toList.length (by simp [DataW.weights])
  simpa using this

theorem Op.struct {t : TypeId} {fs : Array Field} {cs : List Value} (h : Op enc P w t cs) (ht : P.underlying t = some (.struct fs)) :
    cs.length = P.cellsOf t ∧ ∀ (i : Nat) (f : Field), fs[i]? = some f → Op enc P w f.type ((cs.drop f.offset).take (P.cellsOf f.type)) := by
  obtain ⟨fuel, x, hx, hw⟩ := h
  obtain ⟨xs, n, _, rfl, hl, hlen, hf⟩ := DataW.trod_struct ht hx
  refine ⟨hl, fun i f hi => ?_⟩
  have hlt : i < xs.length := by rw [hlen]; exact (Array.getElem?_eq_some_iff.1 hi).1
  refine ⟨n, xs[i], (hf i f hi).trans (List.getElem?_eq_getElem hlt), fun m hm => hw m ?_⟩
  simp only [DataW.weights, ht]
  refine DataW.weights_mem_each (j := i) (t := f.type) (d := xs[i].1) ?_ ?_ m hm
  · simp [List.getElem?_map, hi]
  · simp [List.getElem?_map, List.getElem?_eq_getElem hlt]

theorem cells_one {a : Addr} {cs : List Value} (h : w.cells? 0 a 1 = some cs) : ∃ u, cs = [u] ∧ w.cell? a = some u := by
  obtain ⟨_, hl, hc⟩ := World.cells?_some h
  match cs, hl with
  | [u], _ => exact ⟨u, rfl, by simpa [Addr.add] using hc 0 (by omega)⟩

theorem Op.slice {t e : TypeId} {cs : List Value} (h : Op enc P w t cs) (ht : P.underlying t = some (.slice e)) :
    cs = [.slice none 0 0] ∨ ∃ (a : Addr) (len cap : Nat), cs = [.slice (some a) len cap] ∧ len ≤ cap ∧ cap ≤ maxLen ∧ cap * P.bytesOf e ≤ reachBytes ∧
      ∀ i, i < cap → ∃ cs', w.cells? 0 (a.add (i * P.cellsOf e)) (P.cellsOf e) = some cs' ∧ Op enc P w e cs' := by
  obtain ⟨fuel, x, hx, hw⟩ := h
  rcases DataW.trod_slice ht hx with ⟨h1, _⟩ | ⟨a, len, cap, elems, rest, n, _, hcs, rfl, _, hlc, hcm, hlen, hel, hsp, _⟩
  · exact .inl h1
  · obtain ⟨hrl, hrest⟩ := hsp rfl
    refine .inr ⟨a, len, cap, hcs, hlc, hcm, ?_, fun i hi => ?_⟩
    · have := hw ((elems.length + rest.length) * P.bytesOf e) (by simp [DataW.weights, ht])
      rwa [hlen, hrl, show len + (cap - len) = cap by omega] at this
    · have hwi : ∀ y ∈ elems ++ rest, ∀ m ∈ y.1.weights P e, m ≤ reachBytes := by
        intro y hy m hm
        refine hw m ?_
        simp only [DataW.weights, ht, List.mem_cons, List.mem_append]
        rcases List.mem_append.1 hy with h | h
        · exact Or.inr (Or.inl (weights_mem_all (List.mem_map_of_mem h) m hm))
        · exact Or.inr (Or.inr (weights_mem_all (List.mem_map_of_mem h) m hm))
      by_cases hil : i < len
      · have h1 := hel i hil
        rw [List.getElem?_eq_getElem (by omega)] at h1
        obtain ⟨cs', hc, ht'⟩ := Option.bind_eq_some_iff.1 h1
        exact ⟨cs', hc, n, _, ht', hwi _ (List.mem_append_left _ (List.getElem_mem _))⟩
      · have h1 := hrest (i - len) (by omega)
        rw [List.getElem?_eq_getElem (by omega), show len + (i - len) = i by omega] at h1
        obtain ⟨cs', hc, ht'⟩ := Option.bind_eq_some_iff.1 h1
        exact ⟨cs', hc, n, _, ht', hwi _ (List.mem_append_right _ (List.getElem_mem _))⟩

theorem spot_none {a : Addr} {u : Value} (h : w.cell? a = some u) : ∃ b o, a = ⟨b, o, none⟩ := by
  obtain ⟨b, o, s⟩ := a
  have : s = none := by simpa using World.cell?_spot h
  exact ⟨b, o, by rw [this]⟩

/-- a slice of ints -/
theorem Op.ints {t e : TypeId} {cs : List Value} (h : Op enc P w t cs) (ht : P.underlying t = some (.slice e)) (he : P.underlying e = some (.int .i64)) (hc : P.cellsOf e = 1) (hb : P.bytesOf e = 8) :
    ∃ (A : Option Addr) (n c : Nat) (zs : List Int), cs = [.slice A n c] ∧ n ≤ c ∧ c * 8 ≤ 140737488351232 ∧ Rd w 1 A n (zs.map (Value.int .i64)) ∧
      (∀ z ∈ zs, -9223372036854775808 ≤ z ∧ z ≤ 9223372036854775807) ∧ (∀ a, A = some a → 0 < n → a.block < w.heap.size) := by
  rcases h.slice ht with rfl | ⟨a, len, cap, rfl, hlc, hcm, hr, hcell⟩
  · exact ⟨none, 0, 0, [], rfl, Nat.le_refl _, by omega, Rd.nil _ _ _, by simp, fun a h => by cases h⟩
  · rw [hb] at hr
    rw [hc] at hcell
    have hex : ∀ i, i < cap → ∃ z : Int, w.cell? (a.add i) = some (.int .i64 z) ∧ -9223372036854775808 ≤ z ∧ z ≤ 9223372036854775807 := by
      intro i hi
      obtain ⟨cs', h1, h2⟩ := hcell i hi
      rw [Nat.mul_one] at h1
      obtain ⟨u, rfl, hu⟩ := cells_one h1
      obtain ⟨z, hz, hw1, hw2⟩ := h2.i64 he
      simp only [List.cons.injEq, and_true] at hz
      subst hz
      exact ⟨z, hu, hw1, hw2⟩
    have hcl : ∃ f : Nat → Int, ∀ i, i < cap → w.cell? (a.add i) = some (.int .i64 (f i)) ∧ -9223372036854775808 ≤ f i ∧ f i ≤ 9223372036854775807 := by
      refine ⟨fun i => if h : i < cap then (hex i h).choose else 0, fun i hi => ?_⟩
      simp only [hi, dif_pos]
      exact (hex i hi).choose_spec
    obtain ⟨f, hf⟩ := hcl
    refine ⟨some a, len, cap, (List.range len).map f, rfl, hlc, by simpa [reachBytes] using hr, ⟨by simp, fun hn => ?_⟩, ?_, fun a' ha' hn => ?_⟩
    · have h0 := (hf 0 (by omega)).1
      have hz : a.add 0 = a := by simp [Addr.add]
      rw [hz] at h0
      obtain ⟨b, o, rfl⟩ := spot_none h0
      refine ⟨b, o, rfl, fun j u hu => ?_⟩
      have hj : j < len := by
        have := (List.getElem?_eq_some_iff.1 hu).1
        simpa using this
      have h1 := (hf j (by omega)).1
      have hadd : (⟨b, o, none⟩ : Addr).add j = ⟨b, o + j, none⟩ := by unfold Addr.add; split <;> simp_all
      rw [hadd] at h1
      simp [List.getElem?_map, List.getElem?_range hj] at hu
      rw [h1, hu]
    · intro z hz
      obtain ⟨i, hi, rfl⟩ := List.mem_map.1 hz
      exact (hf i (by have := List.mem_range.1 hi; omega)).2
    · injection ha' with e1
      subst e1
      have h0 := (hf 0 (by omega)).1
      have hz : a.add 0 = a := by simp [Addr.add]
      rw [hz] at h0
      exact World.block_lt_of_cell? w _ h0
end
end Go.Proofs.YtckjnlonijodcaaDoor.O
