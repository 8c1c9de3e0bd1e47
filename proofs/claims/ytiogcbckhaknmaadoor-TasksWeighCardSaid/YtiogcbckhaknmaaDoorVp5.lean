/-
  What Verify answers, in plain words; there is one answer. No conditions: plain lemmas.
-/
import Derived.Test.YtiogcbckhaknmaaDoorVfD
import Derived.Test.YtiogcbckhaknmaaDoorVf1
namespace Go.Proofs.YtiogcbckhaknmaaDoor.Vf
open Go.RowKit Go.Proofs.YtiogcbckhaknmaaDoor.W Go.Proofs.YtiogcbckhaknmaaDoor.Ints Go.Proofs.YtiogcbckhaknmaaDoor.Cod Go.Proofs.YtiogcbckhaknmaaDoor.Cell

def headB (p : PD) : Bool := (p.kind == 1 || (p.kind == 2 || p.kind == 3)) && (decide (p.first.length ≤ 20000) && decide (p.text.length ≤ 100000))
def AlTo (ps : List PD) (u : Nat) (p : PD) (k : Nat) : Prop := ∀ (i : Nat) (x : IN), i < k → p.text[i]? = some x → aloneB ps u i p.first.length p.text.length x = true
structure LookOk (ps : List PD) (u : Nat) (p : PD) : Prop where
  head : headB p = true
  alone : AlTo ps u p p.text.length
  loops : LoopsOk p.text
  jumps : JumpsOk p.text (loopsTo p.text p.text.length) p.text.length
  levels : levF p.text = true
theorem head_parts {p : PD} (h : headB p = true) : p.first.length ≤ 20000 ∧ p.text.length ≤ 100000 := by
  simp only [headB, Bool.and_eq_true, decide_eq_true_eq] at h
  exact h.2
theorem al_ts {ps : List PD} {u : Nat} {p : PD} (h : AlTo ps u p p.text.length) : TsOk p.text := by
  intro i x hx
  have h1 := h i x (List.getElem?_eq_some_iff.1 hx).1 hx
  constructor
  · intro ho
    rcases ho with ho | ho
    · simp only [aloneB, ho] at h1
      simp at h1
      omega
    · simp only [aloneB, ho] at h1
      simp at h1
      omega
  · intro ho
    simp only [aloneB, ho] at h1
    simp at h1
    omega
theorem al_fit {ps : List PD} {u : Nat} {p : PD} (h : AlTo ps u p p.text.length) (hf : p.first.length ≤ 20000) : FitOk p.text u := by
  intro i x hx
  have h1 := h i x (List.getElem?_eq_some_iff.1 hx).1 hx
  refine ⟨fun ho => ?_, fun ho => ?_, fun ho => ?_⟩
  · simp only [aloneB, ho] at h1
    simp [withinB] at h1
    omega
  · simp only [aloneB, ho] at h1
    simp [runB] at h1
    omega
  · simp only [aloneB, ho] at h1
    simp at h1
    omega
/-- the bounds of the first units -/
structure VerR (ps : List PD) (k : Nat) (bs : List Nat) : Prop where
  len : bs.length = k
  all : ∀ (u : Nat) (p : PD), u < k → ps[u]? = some p → LookOk ps u p ∧ boundF p.text (bs.take u) ≤ 1000000000 ∧ bs[u]? = some (boundF p.text (bs.take u))
theorem ver_zero (ps : List PD) : VerR ps 0 [] := ⟨rfl, fun u p h => by omega⟩
theorem ver_next {ps : List PD} {k : Nat} {bs : List Nat} {p : PD} (h : VerR ps k bs) (hp : ps[k]? = some p) (hl : LookOk ps k p) (hb : boundF p.text bs ≤ 1000000000) : VerR ps (k + 1) (bs ++ [boundF p.text bs]) := by
  refine ⟨by rw [List.length_append, h.len]; rfl, fun u q hu hq => ?_⟩
  by_cases e : u = k
  · subst e
    rw [hp] at hq
    obtain rfl := Option.some.inj hq
    have e2 : (bs ++ [boundF p.text bs]).take u = bs := by rw [List.take_append_of_le_length (by rw [h.len]; exact Nat.le_refl _), List.take_of_length_le (by rw [h.len]; exact Nat.le_refl _)]
    rw [e2]
    exact ⟨hl, hb, by rw [List.getElem?_append_right (by rw [h.len]; exact Nat.le_refl _), h.len, Nat.sub_self]; rfl⟩
  · have e2 : (bs ++ [boundF p.text bs]).take u = bs.take u := List.take_append_of_le_length (by rw [h.len]; omega)
    rw [e2, List.getElem?_append_left (by rw [h.len]; omega)]
    exact h.all u q (by omega) hq
theorem ver_bs {ps : List PD} {k : Nat} {bs : List Nat} (h : VerR ps k bs) (hk : k ≤ ps.length) : BsOk bs := by
  intro b hb
  obtain ⟨u, hu⟩ := List.getElem?_of_mem hb
  have hlt := (List.getElem?_eq_some_iff.1 hu).1
  rw [h.len] at hlt
  obtain ⟨_, h2, h3⟩ := h.all u _ hlt (List.getElem?_eq_getElem (show u < ps.length by omega))
  rw [h3] at hu
  injection hu with hu
  unfold lidN
  omega
theorem ver_uniq {ps : List PD} : ∀ {k : Nat} {bs cs : List Nat}, k ≤ ps.length → VerR ps k bs → VerR ps k cs → bs = cs := by
  intro k bs cs hk h1 h2
  have key : ∀ u, u ≤ k → bs.take u = cs.take u := by
    intro u
    induction u with
    | zero => intro _; rfl
    | succ u ih =>
      intro hu
      have e := ih (by omega)
      have hp : ps[u]? = some ps[u] := List.getElem?_eq_getElem (by omega)
      obtain ⟨_, _, h3⟩ := h1.all u _ (by omega) hp
      obtain ⟨_, _, h4⟩ := h2.all u _ (by omega) hp
      rw [take_snoc h3, take_snoc h4, e]
  have := key k (Nat.le_refl _)
  rwa [List.take_of_length_le (by rw [h1.len]; exact Nat.le_refl _), List.take_of_length_le (by rw [h2.len]; exact Nat.le_refl _)] at this
theorem ver_pre {ps : List PD} {k m : Nat} {bs : List Nat} (h : VerR ps m bs) (hk : k ≤ m) : VerR ps k (bs.take k) := by
  refine ⟨by rw [List.length_take, h.len]; omega, fun u p hu hp => ?_⟩
  rw [List.take_take, Nat.min_eq_left (by omega), List.getElem?_take_of_lt hu]
  exact h.all u p (by omega) hp
/-- an answer: the bounds, the fault's code and its unit -/
structure VO where
  bs : List Nat
  code : Int
  unit : Int
inductive Out (ps : List PD) : VO → Prop
  | great (h : 16 < ps.length) : Out ps ⟨[], 12, 0⟩
  | all (bs : List Nat) (h : ps.length ≤ 16) (hv : VerR ps ps.length bs) : Out ps ⟨bs, 0, 0⟩
  | bad (k : Nat) (bs : List Nat) (p : PD) (h : ps.length ≤ 16) (hv : VerR ps k bs) (hp : ps[k]? = some p) (hb : ¬ LookOk ps k p) : Out ps ⟨[], 12, k⟩
  | slow (k : Nat) (bs : List Nat) (p : PD) (h : ps.length ≤ 16) (hv : VerR ps k bs) (hp : ps[k]? = some p) (hl : LookOk ps k p) (hb : 1000000000 < boundF p.text bs) : Out ps ⟨[], 13, k⟩
theorem fell_first {ps : List PD} {k m : Nat} {bs cs : List Nat} {p : PD} (hv : VerR ps k bs) (hp : ps[k]? = some p) (hf : ¬ LookOk ps k p ∨ 1000000000 < boundF p.text bs) (hm : VerR ps m cs) (_hml : m ≤ ps.length) : m ≤ k := by
  rcases Nat.lt_or_ge k m with h | h
  · exfalso
    obtain ⟨h1, h2, h3⟩ := hm.all k p h hp
    have hk := (List.getElem?_eq_some_iff.1 hp).1
    have e := ver_uniq (by omega) hv (ver_pre hm (Nat.le_of_lt h))
    rcases hf with hf | hf
    · exact hf h1
    · rw [e] at hf; omega
  · exact h
theorem out_uniq {ps : List PD} {a b : VO} (h1 : Out ps a) (h2 : Out ps b) : a = b := by
  have lt : ∀ {k : Nat} {p : PD}, ps[k]? = some p → k < ps.length := fun h => (List.getElem?_eq_some_iff.1 h).1
  cases h1 with
  | great h =>
    cases h2 with
    | great _ => rfl
    | all _ h' _ => omega
    | bad _ _ _ h' _ _ _ => omega
    | slow _ _ _ h' _ _ _ _ => omega
  | all bs h hv =>
    cases h2 with
    | great h' => omega
    | all cs _ hv' => rw [ver_uniq (Nat.le_refl _) hv hv']
    | bad k cs p _ hv' hp hb =>
      have := fell_first hv' hp (.inl hb) hv (Nat.le_refl _)
      have := lt hp
      omega
    | slow k cs p _ hv' hp hl hb =>
      have := fell_first hv' hp (.inr hb) hv (Nat.le_refl _)
      have := lt hp
      omega
  | bad k bs p h hv hp hb =>
    have hk := lt hp
    cases h2 with
    | great h' => omega
    | all cs _ hv' =>
      have := fell_first hv hp (.inl hb) hv' (Nat.le_refl _)
      omega
    | bad k' cs p' _ hv' hp' hb' =>
      have h3 := fell_first hv hp (.inl hb) hv' (Nat.le_of_lt (lt hp'))
      have h4 := fell_first hv' hp' (.inl hb') hv (Nat.le_of_lt hk)
      rw [show k = k' by omega]
    | slow k' cs p' _ hv' hp' hl' hb' =>
      have h3 := fell_first hv hp (.inl hb) hv' (Nat.le_of_lt (lt hp'))
      have h4 := fell_first hv' hp' (.inr hb') hv (Nat.le_of_lt hk)
      obtain rfl : k = k' := by omega
      rw [hp] at hp'
      obtain rfl := Option.some.inj hp'
      exact absurd hl' hb
  | slow k bs p h hv hp hl hb =>
    have hk := lt hp
    cases h2 with
    | great h' => omega
    | all cs _ hv' =>
      have := fell_first hv hp (.inr hb) hv' (Nat.le_refl _)
      omega
    | bad k' cs p' _ hv' hp' hb' =>
      have h3 := fell_first hv hp (.inr hb) hv' (Nat.le_of_lt (lt hp'))
      have h4 := fell_first hv' hp' (.inl hb') hv (Nat.le_of_lt hk)
      obtain rfl : k = k' := by omega
      rw [hp] at hp'
      obtain rfl := Option.some.inj hp'
      exact absurd hl hb'
    | slow k' cs p' _ hv' hp' hl' hb' =>
      have h3 := fell_first hv hp (.inr hb) hv' (Nat.le_of_lt (lt hp'))
      have h4 := fell_first hv' hp' (.inr hb') hv (Nat.le_of_lt hk)
      rw [show k = k' by omega]
/-- an answer as memory -/
def OutR (w w' : World) (e : Ending) (o : VO) : Prop := ∃ B d, e = .returned (.tuple #[.slice B o.bs.length d, .agg #[.int .i64 o.code, .int .i64 o.unit, .int .i64 0]]) ∧ Mem w w' [] [⟨3, 1, B, o.bs.length, d, ints (natL o.bs)⟩]
theorem OutR.nil {w w' : World} {e : Ending} (k u : Int) (h : e = .returned (.tuple #[.slice none 0 0, .agg #[.int .i64 k, .int .i64 u, .int .i64 0]])) (hb : Below w.heap.size w w') : OutR w w' e ⟨[], k, u⟩ :=
  ⟨_, _, h, ((Mem.start w).below hb).nilO _ _⟩
end Go.Proofs.YtiogcbckhaknmaaDoor.Vf
