/-
  A region that draws its order, in which what is loaded is written over at the end: a load may be taken first as long as the one that waits for it has not come up. No conditions: plain lemmas.
-/
import Derived.OrdersHeld
import Derived.StillTail
import Derived.Deep.RegionHeld
import Derived.RegionTactic
namespace Go.Proofs.YtiogcbckhaknmaaDoor.W

section
variable {P : Program} {ops : Array Oper} {Q : Exit → Act → World → Prop} {md : Region.Mode} {S : Array Bool → World → Prop}

/-- whichever order is picked; behind each operation S holds of what has come up and the world -/
def wpAnyL (P : Program) (md : Region.Mode) (ops : Array Oper) (Q : Exit → Act → World → Prop) (S : Array Bool → World → Prop) : Nat → Array Bool → Act → World → Prop
  | 0, L, a, w => Region.ready md ops L = [] ∧ Q .normal a w
  | fuel + 1, L, a, w => (Region.ready md ops L = [] → Q .normal a w) ∧
    ∀ i ∈ Region.ready md ops L, wpOp P ops Q i (fun a' w' => S (L.setIfInBounds i true) w' ∧ wpAnyL P md ops Q S fuel (L.setIfInBounds i true) a' w') a w
theorem wpAny_of_L : ∀ (fuel : Nat) (L : Array Bool) (a : Act) (w : World), wpAnyL P md ops Q S fuel L a w → wpAny P md ops Q fuel L a w
  | 0, _, _, _, h => h
  | fuel + 1, _, _, _, h => ⟨h.1, fun i hi => wpOp_mono (fun a' w' h' => wpAny_of_L fuel _ a' w' h'.2) (h.2 i hi)⟩

theorem wpAnyL_first {i m : Nat} {oi : Oper} {v : Value} {SI : World → Prop} (hi : ops[i]? = some oi) (hsel : ∀ (j : Nat) (o : Oper) cs b, ops[j]? = some o → o.op ≠ .select cs b)
    (hQ : ∀ c a w, Q (.panic c) (a.put oi.dst v) w → Q (.panic c) a w) (hSI : ∀ L w, L.getD m true = false → S L w → SI w) (hSx : ∀ L w, S (L.setIfInBounds i true) w ↔ S L w) (hmi : m ≠ i) (hdep : Region.waitsFor md ops m i = true) :
    ∀ (fuel : Nat) (L : Array Bool) (a : Act) (w : World),
      (∀ j oj, ops[j]? = some oj → j ≠ i → L.getD j true = false → (∀ e ∈ oj.after, Region.binds md e = true → e.on ≠ i) → oi.apart ops oj = true) →
      i ∈ Region.ready md ops L → L.getD m true = false → YieldsIf P ops SI oi v a → S L w →
      wpAnyL P md ops Q S fuel (L.setIfInBounds i true) (a.put oi.dst v) w → wpAnyL P md ops Q S (fuel + 1) L a w := by
  obtain ⟨om, hom, ed, hed, hbd, hon⟩ := Region.waitsFor_spec hdep
  intro fuel
  induction fuel with
  | zero =>
    intro L a w hfree hr hm hy hSi H
    have hS : SI w := hSI L w hm hSi
    refine ⟨fun h => (by rw [h] at hr; cases hr), fun j hj => ?_⟩
    by_cases hji : j = i
    · subst hji; exact hy.wpOp hi hS ⟨(hSx L w).2 hSi, H⟩
    · have := ready_mono hj hji
      rw [H.1] at this
      cases this
  | succ fuel ih =>
    intro L a w hfree hr hm hy hSi H
    have hS : SI w := hSI L w hm hSi
    refine ⟨fun h => (by rw [h] at hr; cases hr), fun j hj => ?_⟩
    by_cases hji : j = i
    · subst hji; exact hy.wpOp hi hS ⟨(hSx L w).2 hSi, H⟩
    · have h1 := H.2 j (ready_mono hj hji)
      obtain ⟨hjun, oj, hoj, hall⟩ := mem_ready.1 hj
      have hi0 : L.getD i false = false := by
        have h0 := (mem_ready.1 hr).1
        rcases Nat.lt_or_ge i L.size with h' | h'
        · simp [h'] at h0 ⊢; exact h0
        · simp [Array.getElem?_eq_none h']
      have hnot : ∀ e ∈ oj.after, Region.binds md e = true → e.on ≠ i := fun e he hb heq => by
        have h1 := hall e he hb
        rw [heq, hi0] at h1
        cases h1
      have hjm : j ≠ m := fun e => by
        subst e
        rw [hom] at hoj
        injection hoj with hoj
        subst hoj
        exact hnot ed hed hbd hon
      have h2 := wpOp_putIf hoj (hfree j oj hoj hji hjun hnot) (fun cs b => hsel i oi cs b hi) (fun cs b => hsel j oj cs b hoj) hQ hy h1
      have hfree' : ∀ k ok, ops[k]? = some ok → k ≠ i → (L.setIfInBounds j true).getD k true = false →
          (∀ e ∈ ok.after, Region.binds md e = true → e.on ≠ i) → oi.apart ops ok = true := fun k ok hk hki hun hno => by
        refine hfree k ok hk hki ?_ hno
        by_cases hjk : j = k
        · subst hjk; exact hjun
        · rw [getD_set_ne true hjk] at hun; exact hun
      have hm' : (L.setIfInBounds j true).getD m true = false := by rw [getD_set_ne true hjm]; exact hm
      have hm2 : ((L.setIfInBounds i true).setIfInBounds j true).getD m true = false := by rw [getD_set_ne true hjm, getD_set_ne true (Ne.symm hmi)]; exact hm
      refine wpOp_mono (fun a' w' h3 => ?_) h2
      have hs : S (L.setIfInBounds j true) w' := (hSx _ _).1 (by rw [Array.setIfInBounds_comm _ _ hji]; exact h3.2.1)
      refine ⟨hs, ih (L.setIfInBounds j true) a' w' hfree' (ready_mono hr (Ne.symm hji)) hm' h3.1 hs ?_⟩
      rw [Array.setIfInBounds_comm _ _ hji]
      exact h3.2.2
/-- take number i first: m waits for it, and has not come up -/
theorem wpAnyL_take {i m : Nat} {oi : Oper} {v : Value} {SI : World → Prop} {fuel : Nat} {L : Array Bool} {a : Act} {w : World} (hi : ops[i]? = some oi)
    (hs : Region.noSelect ops = true) (hf : Region.free md ops L i = true) (hr : (Region.ready md ops L).contains i = true) (hdep : Region.waitsFor md ops m i = true) (hm : L.getD m true = false) (hmi : m ≠ i)
    (hSx : ∀ L w, S (L.setIfInBounds i true) w ↔ S L w) (hSI : ∀ L w, L.getD m true = false → S L w → SI w)
    (hQ : ∀ c a w, Q (.panic c) (a.put oi.dst v) w → Q (.panic c) a w) (hy : YieldsIf P ops SI oi v a) (hS : S L w)
    (h : wpAnyL P md ops Q S fuel (L.setIfInBounds i true) (a.put oi.dst v) w) : wpAnyL P md ops Q S (fuel + 1) L a w :=
  wpAnyL_first hi (Region.noSelect_spec hs) hQ hSI hSx hmi hdep fuel L a w (Region.free_spec hi hf) (by simpa using hr) hm hy hS h
/-- the only one that may come up -/
theorem wpAnyL_one {i : Nat} {o : Oper} {fuel : Nat} {L : Array Bool} {a : Act} {w : World} (ho : ops[i]? = some o) (hr : Region.ready md ops L = [i]) (hw : Region.wanted o (yielded ops a.tmps) = true)
    (h : Oper.wp P o a w (fun a' w' => S (L.setIfInBounds i true) w' ∧ wpAnyL P md ops Q S fuel (L.setIfInBounds i true) a' w') Q) : wpAnyL P md ops Q S (fuel + 1) L a w := by
  refine ⟨fun h0 => (by rw [hr] at h0; cases h0), fun j hj => ?_⟩
  rw [hr] at hj
  obtain rfl : j = i := by simpa using hj
  exact wpOp_step ho (fun K' hK => by rw [if_pos hw]; exact Oper.wp_mono hK h)
def AllL (P : Program) (md : Region.Mode) (ops : Array Oper) (Q : Exit → Act → World → Prop) (S : Array Bool → World → Prop) (fuel : Nat) (L : Array Bool) (a : Act) (w : World) (rs : List Nat) : Prop :=
  ∀ i ∈ rs, wpOp P ops Q i (fun a' w' => S (L.setIfInBounds i true) w' ∧ wpAnyL P md ops Q S fuel (L.setIfInBounds i true) a' w') a w
theorem AllL.nil {fuel : Nat} {L : Array Bool} {a : Act} {w : World} : AllL P md ops Q S fuel L a w [] := fun _ h => by cases h
theorem AllL.cons {fuel : Nat} {L : Array Bool} {a : Act} {w : World} {i : Nat} {o : Oper} {rs : List Nat} (ho : ops[i]? = some o) (hw : Region.wanted o (yielded ops a.tmps) = true)
    (h : ∀ K' : Act → World → Prop, (∀ a w, S (L.setIfInBounds i true) w → wpAnyL P md ops Q S fuel (L.setIfInBounds i true) a w → K' a w) → Oper.wp P o a w K' Q) (hs : AllL P md ops Q S fuel L a w rs) : AllL P md ops Q S fuel L a w (i :: rs) := fun j hj => by
  rcases List.mem_cons.1 hj with rfl | hj
  · exact wpOp_step ho (fun K' hK => by rw [if_pos hw]; exact h K' (fun a w h1 h2 => hK a w ⟨h1, h2⟩))
  · exact hs j hj
theorem wpAnyL_ready {rs : List Nat} {fuel : Nat} {L : Array Bool} {a : Act} {w : World} (hr : Region.ready md ops L = rs) (hne : rs ≠ []) (h : AllL P md ops Q S fuel L a w rs) : wpAnyL P md ops Q S (fuel + 1) L a w :=
  ⟨fun h0 => absurd (hr ▸ h0) hne, hr ▸ h⟩
theorem wpAnyL_done {L : Array Bool} {a : Act} {w : World} (hr : Region.ready md ops L = []) (h : Q .normal a w) : ∀ fuel, wpAnyL P md ops Q S fuel L a w
  | 0 => ⟨hr, h⟩
  | _ + 1 => ⟨fun _ => h, by rw [hr]; simp⟩
theorem wp_region_L {id : Nat} {a : Act} {w : World} (hm : P.follows .mixedOrders = true)
    (h : wpAnyL P .any ops Q S ops.size (Array.replicate ops.size false) a w.drew) : (Code.region id ops true).wp P Q a w :=
  wp_region_any hm (wpAny_of_L _ _ _ _ h)
end
end Go.Proofs.YtiogcbckhaknmaaDoor.W
