/-
  What is carried from round to round of Play's loop over the releases. No conditions beyond what is said.
-/
import Derived.Test.YthnpeekeoaiaoaaPly6
import Derived.Test.YthnpeekeoaiaoaaRng
namespace Go.Proofs.Ythnpeekeoaiaoaa.Task
open Go.RowKit Go.Shelf Go.Proofs.Ythnpeekeoaiaoaa.W Go.Proofs.Ythnpeekeoaiaoaa.Ints

theorem sum_le {f : Nat → Nat} {c : Nat} (h : ∀ i, f i ≤ c) : ∀ n, sumN f n ≤ n * c
  | 0 => by simp [sumN]
  | n + 1 => by
    have := sum_le h n
    have := h n
    simp only [sumN, Nat.add_mul]
    omega
theorem valid_len {ts : List TD} (ha : ts.all TD.okB = true) {U : Nat} {pre : List (Nat × Nat)} (h : ValidE ts U pre) : pre.length + leftM ts U (relR ts.length pre) ≤ ts.length * U := by
  induction h with
  | nil =>
    simp only [List.length_nil, Nat.zero_add]
    refine sum_le (fun i => ?_) _
    obtain ⟨_, _, _, _, p, _⟩ := cost_pos ha i
    have : nxtF ts (relR ts.length []) i = offF ts i := by
      unfold nxtF
      have e : (relR ts.length []).getD i 0 = 0 := by
        rw [relR_nil]
        simp only [List.getD_eq_getElem?_getD, List.getElem?_replicate]
        split <;> rfl
      rw [e]
      omega
    rw [this]
    omega
  | snoc pre a k _ hk hat hU _ ih =>
    have := left_lt ha (R := relR ts.length pre) (relR_len _ _) hk (U := U) (by rw [hat]; omega)
    rw [relR_snoc hk, List.length_append, List.length_singleton]
    omega
theorem valid_inv {ts : List TD} {U : Nat} {pre : List (Nat × Nat)} {a k : Nat} (h : ValidE ts U (pre ++ [(a, k)])) :
    ValidE ts U pre ∧ k < ts.length ∧ nxtF ts (relR ts.length pre) k = (a : Int) ∧ a < U ∧ ∀ i, i < ts.length → (a : Int) ≤ nxtF ts (relR ts.length pre) i := by
  generalize hq : pre ++ [(a, k)] = q at h
  cases h with
  | nil => simp at hq
  | snoc p a' k' h1 h2 h3 h4 h5 =>
    obtain ⟨e1, e2⟩ := List.append_inj' hq rfl
    subst e1
    injection e2 with e2
    injection e2 with e2 e3
    subst e2 e3
    exact ⟨h1, h2, h3, h4, h5⟩
theorem KpI.mono {B B' Bl Bu n c : Nat} {A : Option Addr} {U : Int} {ts : List TD} {W W' : World} (h : KpI B Bl Bu A n c U ts W W') (hB : B ≤ B') : KpI B' Bl Bu A n c U ts W W' :=
  ⟨fun r cs hr hc => h.1 r cs (by omega) hc, h.2⟩
theorem KpI.trans {B Bl Bu n c : Nat} {A : Option Addr} {U : Int} {ts : List TD} {W W' W'' : World} (h : KpI B Bl Bu A n c U ts W W') (k : KpI B Bl Bu A n c U ts W' W'') : KpI B Bl Bu A n c U ts W W'' :=
  ⟨fun r cs hr hc => k.1 r cs hr (h.1 r cs hr hc), fun x => k.2.1 (h.2.1 x), fun x => k.2.2.1 (h.2.2.1 x), fun x => k.2.2.2.1 (h.2.2.2.1 x), Nat.le_trans h.2.2.2.2 k.2.2.2.2⟩
theorem KpI.put {B Bl Bu n c : Nat} {A : Option Addr} {U : Int} {ts : List TD} (W : World) (l : Nat) (o o' : Obj) (hl : W.heap[l]? = some o) (ho : o.isCells = false) (hA : ∀ a, A = some a → a.block ≠ l) : KpI B Bl Bu A n c U ts W (W.putObj l o') := by
  have hc : ∀ r cs t, W.heap[r]? = some (Obj.cells cs t (0, 0)) → (W.putObj l o').heap[r]? = some (Obj.cells cs t (0, 0)) := fun r cs t h => (World.putObj_heap_other (by
    rintro rfl
    rw [h] at hl
    injection hl with hl
    subst hl
    cases ho)).trans h
  exact ⟨fun r cs _ h => hc r cs _ h, fun h => hc _ _ _ h, fun h => hc _ _ _ h, fun h => h.keep fun b o2 e _ => World.putObj_heap_other (hA _ e), by simp⟩
/-- the caller's word between two rounds -/
def Carry (w : World) (N : Nat) (Ks : List Box) (g gl : Nat) (C : Option Addr) (n cL cC : Nat) (ts : List TD) (U : Nat) (pre : List (Nat × Nat)) (W : World) : Prop :=
  ∃ s O cO, s.now ≤ 20000 ∧ s.ok ts (20001 * pre.length) ∧ (ValidE ts U pre → s = stdB ts (relR ts.length pre) (lastT pre)) ∧
    Mem w W (⟨g, 54, boardV s.now (some ⟨gl, 0, none⟩) C O n cL cC s.q.length cO⟩ :: Ks) (rowsB ts s (some ⟨gl, 0, none⟩) C O n cL cC cO) ∧ N ≤ W.heap.size
theorem carry_turn {w : World} {N : Nat} {Ks : List Box} {g gl : Nat} {C : Option Addr} {n cL cC : Nat} {ts : List TD} {U : Nat} {pre : List (Nat × Nat)} {W W' : World} {row : Option Nat} (hN : w.heap.size ≤ N) (hg : g < N) (hgl : gl < N) (hK : ∀ k ∈ Ks, k.g < N) (hC : ∀ x, C = some x → x.block < N)
    (h : Carry w N Ks g gl C n cL cC ts U pre W) (hgr : W.grownBy W' row) (hr : ∀ r, row = some r → N ≤ r ∧ ∃ o : Obj, W.heap[r]? = some o ∧ (o.isCells = false ∨ ∃ cs, o = .cells cs 3 (0, 0))) : Carry w N Ks g gl C n cL cC ts U pre W' := by
  obtain ⟨s, O, cO, h1, h2, h3, h4, h5⟩ := h
  refine ⟨s, O, cO, h1, h2, h3, h4.grownAll hgr (fun x e => by have := (hr x e).1; omega) (fun k hk e => ?_) (fun o ho x hx e => ?_), Nat.le_trans h5 hgr.size⟩
  · have := (hr _ e).1
    rcases List.mem_cons.1 hk with rfl | hk
    · simp only at this; omega
    · have := hK k hk; omega
  · have hx1 := (hr _ e).1
    obtain ⟨ob, hob, hty⟩ := (hr _ e).2
    simp only [rowsB, List.mem_cons, List.not_mem_nil, or_false] at ho
    rcases ho with rfl | rfl | rfl
    · injection hx with hx; subst hx; simp only at hx1; omega
    · have := hC x hx; omega
    · rcases (h4.rowO 2 rfl).2 with ⟨hv, _⟩ | ⟨g', cap, cur, hv, _, hh, _⟩
      · simp only at hx; rw [hx] at hv; cases hv
      · simp only at hx
        rw [hx] at hv
        injection hv with hv
        injection hv with hv
        subst hv
        simp only at hob
        rw [hh] at hob
        injection hob with hob
        subst hob
        rcases hty with hty | ⟨cs, hty⟩
        · cases hty
        · injection hty with _ hty
          exact absurd hty (by decide)
end Go.Proofs.Ythnpeekeoaiaoaa.Task
