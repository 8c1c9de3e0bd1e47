/-
  How high the stack is, in plain words: step by step; who is reached. No conditions: plain lemmas.
-/
import Derived.Test.YtiogcbckhaknmaaDoorVp2
import Derived.Test.YtiogcbckhaknmaaDoorCell2
namespace Go.Proofs.YtiogcbckhaknmaaDoor.Vf
open Go.RowKit Go.Proofs.YtiogcbckhaknmaaDoor.W Go.Proofs.YtiogcbckhaknmaaDoor.Ints Go.Proofs.YtiogcbckhaknmaaDoor.Cod Go.Proofs.YtiogcbckhaknmaaDoor.Cell

def takesF (x : IN) : Int := if x.op = 3 ∨ x.op = 10 ∨ x.op = 12 ∨ x.op = 4 ∨ x.op = 7 ∨ x.op = 9 then 1 else if x.op = 5 then 2 else if x.op = 8 then 3 else if x.op = 6 then (if secondF x.a x.b = 0 then 1 else 2) else 0
def leavesF (x : IN) : Int := if x.op = 1 ∨ x.op = 2 ∨ x.op = 4 ∨ x.op = 7 ∨ x.op = 8 ∨ x.op = 6 then 1 else if x.op = 9 then 2 else 0
theorem takes_bd (x : IN) : 0 ≤ takesF x ∧ takesF x ≤ 3 := by
  unfold takesF
  repeat' split
  all_goals omega
theorem leaves_bd (x : IN) : 0 ≤ leavesF x ∧ leavesF x ≤ 2 := by
  unfold leavesF
  repeat' split
  all_goals omega
/-- where an instruction leads -/
def tsF (i : Nat) (x : IN) : List Int := (if x.op = 11 then [] else [(i : Int) + 1]) ++ ((if x.op = 11 ∨ x.op = 12 then [x.a] else []) ++ (if x.op = 14 then [x.b] else []))
theorem ts_jump {i : Nat} {x : IN} (h : x.op = 11) : tsF i x = [x.a] := by simp [tsF, h]
theorem ts_fall {i : Nat} {x : IN} (h : x.op = 12) : tsF i x = [(i : Int) + 1, x.a] := by simp [tsF, h]
theorem ts_round {i : Nat} {x : IN} (h : x.op = 14) : tsF i x = [(i : Int) + 1, x.b] := by simp [tsF, h]
theorem ts_on {i : Nat} {x : IN} (h1 : ¬ x.op = 11) (h2 : ¬ x.op = 12) (h3 : ¬ x.op = 14) : tsF i x = [(i : Int) + 1] := by simp [tsF, h1, h2, h3]
def hAt (H : List Int) (t : Int) : Int := H.getD t.toNat (-1)
def setAll (H : List Int) (ts : List Int) (h : Int) : List Int := ts.foldl (fun H t => H.set t.toNat h) H
def okAll (H : List Int) (ts : List Int) (h : Int) : Prop := ∀ t ∈ ts, hAt H t < 0 ∨ hAt H t = h
instance (H : List Int) (ts : List Int) (h : Int) : Decidable (okAll H ts h) := inferInstanceAs (Decidable (∀ t ∈ ts, _))
/-- one step -/
def stepF (H : List Int) (i : Nat) (x : IN) : Option (List Int) :=
  if hAt H i < 0 then some H
  else if hAt H i - takesF x < 0 ∨ 1000 < hAt H i - takesF x + leavesF x then none
  else if okAll H (tsF i x) (hAt H i - takesF x + leavesF x) then some (setAll H (tsF i x) (hAt H i - takesF x + leavesF x)) else none
def first (n : Nat) : List Int := 0 :: List.replicate n (-1)
def levTo (T : List IN) : Nat → Option (List Int)
  | 0 => some (first T.length)
  | k + 1 => match levTo T k with | none => none | some H => match T[k]? with | some x => stepF H k x | none => some H
def levF (T : List IN) : Bool := match levTo T T.length with | none => false | some H => decide (hAt H T.length ≤ 0)
theorem lev_snoc {T : List IN} {k : Nat} {H : List Int} {x : IN} (h : levTo T k = some H) (hx : T[k]? = some x) : levTo T (k + 1) = stepF H k x := by
  show (match levTo T k with | none => none | some H => match T[k]? with | some x => stepF H k x | none => some H) = _
  rw [h, hx]
theorem lev_none {T : List IN} {k : Nat} (h : levTo T k = none) : ∀ m, k ≤ m → levTo T m = none
  | 0, hm => by
    obtain rfl : k = 0 := by omega
    exact h
  | m + 1, hm => by
    by_cases e : k = m + 1
    · rw [← e]; exact h
    · show (match levTo T m with | none => none | some H => match T[m]? with | some x => stepF H m x | none => some H) = _
      rw [lev_none h m (by omega)]
theorem lev_false {T : List IN} {k : Nat} (h : levTo T k = none) (hk : k ≤ T.length) : levF T = false := by
  unfold levF
  rw [lev_none h _ hk]
theorem set_len (ts : List Int) (h : Int) : ∀ H : List Int, (setAll H ts h).length = H.length := by
  induction ts with
  | nil => intro H; rfl
  | cons t ts ih => intro H; show (setAll (H.set t.toNat h) ts h).length = _; rw [ih, List.length_set]
theorem step_len {H H' : List Int} {i : Nat} {x : IN} (h : stepF H i x = some H') : H'.length = H.length := by
  unfold stepF at h
  split at h
  · injection h with h; rw [h]
  · split at h
    · cases h
    · split at h
      · injection h with h; rw [← h, set_len]
      · cases h
theorem lev_len {T : List IN} : ∀ {k : Nat} {H : List Int}, levTo T k = some H → H.length = T.length + 1
  | 0, H, h => by
    injection h with h
    rw [← h]
    simp [first]
  | k + 1, H, h => by
    have h' : (match levTo T k with | none => none | some H => match T[k]? with | some x => stepF H k x | none => some H) = some H := h
    cases hp : levTo T k with
    | none => rw [hp] at h'; cases h'
    | some H0 =>
      rw [hp] at h'
      cases hx : T[k]? with
      | none => rw [hx] at h'; injection h' with h'; rw [← h']; exact lev_len hp
      | some x => rw [hx] at h'; rw [step_len h']; exact lev_len hp
theorem hAt_set {H : List Int} {t s : Int} {h : Int} (h1 : 0 ≤ t) (h2 : t < H.length) (h3 : 0 ≤ s) : hAt (H.set t.toNat h) s = if t = s then h else hAt H s := by
  unfold hAt
  rw [List.getD_eq_getElem?_getD, List.getD_eq_getElem?_getD, List.getElem?_set]
  by_cases e : t = s
  · subst e
    have h4 : t.toNat < H.length := by omega
    simp [h4]
  · have : ¬ t.toNat = s.toNat := by omega
    simp [e, this]
theorem hAt_all {h : Int} : ∀ {ts H : List Int} {s : Int}, (∀ t ∈ ts, 0 ≤ t ∧ t < H.length) → 0 ≤ s → hAt (setAll H ts h) s = if s ∈ ts then h else hAt H s
  | [], H, s, _, _ => by simp [setAll]
  | t :: ts, H, s, hb, hs => by
    show hAt (setAll (H.set t.toNat h) ts h) s = _
    have hbt := hb t (by simp)
    rw [hAt_all (by rw [List.length_set]; exact fun t ht => hb t (by simp [ht])) hs, hAt_set hbt.1 hbt.2 hs]
    by_cases e1 : s ∈ ts
    · simp [e1]
    · by_cases e2 : t = s
      · simp [e1, e2]
      · have : ¬ s = t := fun e => e2 e.symm
        simp [e1, e2, this]
/-- the heights lie between -1 and 1000 -/
def HBd (H : List Int) : Prop := ∀ x ∈ H, -1 ≤ x ∧ x ≤ 1000
theorem hbd_at {H : List Int} (h : HBd H) (t : Int) : -1 ≤ hAt H t ∧ hAt H t ≤ 1000 := by
  unfold hAt
  rw [List.getD_eq_getElem?_getD]
  cases e : H[t.toNat]? with
  | none => simp
  | some v => exact h v (List.mem_of_getElem? e)
theorem hbd_set {h : Int} (hh : -1 ≤ h ∧ h ≤ 1000) : ∀ {ts H : List Int}, HBd H → HBd (setAll H ts h)
  | [], H, hb => hb
  | t :: ts, H, hb => by
    show HBd (setAll (H.set t.toNat h) ts h)
    refine hbd_set hh fun x hx => ?_
    rcases List.mem_or_eq_of_mem_set hx with h1 | h1
    · exact hb x h1
    · rw [h1]; exact hh
theorem hbd_step {H H' : List Int} {i : Nat} {x : IN} (hb : HBd H) (h : stepF H i x = some H') : HBd H' := by
  unfold stepF at h
  split at h
  · injection h with h; rw [← h]; exact hb
  · split at h
    · cases h
    · rename_i h1 h2
      split at h
      · injection h with h
        rw [← h]
        have := (leaves_bd x).1
        exact hbd_set (by omega) hb
      · cases h
theorem hbd_first (n : Nat) : HBd (first n) := by
  intro x hx
  rcases List.mem_cons.1 hx with rfl | hx
  · omega
  · rw [(List.mem_replicate.1 hx).2]; omega
theorem hbd_lev {T : List IN} : ∀ {k : Nat} {H : List Int}, levTo T k = some H → HBd H
  | 0, H, h => by
    injection h with h
    rw [← h]
    exact hbd_first _
  | k + 1, H, h => by
    have h' : (match levTo T k with | none => none | some H => match T[k]? with | some x => stepF H k x | none => some H) = some H := h
    cases hp : levTo T k with
    | none => rw [hp] at h'; cases h'
    | some H0 =>
      rw [hp] at h'
      cases hx : T[k]? with
      | none => rw [hx] at h'; injection h' with h'; rw [← h']; exact hbd_lev hp
      | some x => rw [hx] at h'; exact hbd_step (hbd_lev hp) h'
/-! ### who is in a loop has come through its beginning -/
def Reach (T : List IN) (H : List Int) : Prop := ∀ l ∈ loopsTo T T.length, ∀ p : Nat, inL l p → 0 ≤ hAt H p → 0 ≤ hAt H l.fr
theorem round_is {T : List IN} (hR : RoundOk T T.length) {i : Nat} {x : IN} (hx : T[i]? = some x) (ho : x.op = 14) (hb1 : 1 ≤ x.b) : ∃ l ∈ loopsTo T T.length, (l.fr : Int) = x.b ∧ l.to = i := by
  have hi := (List.getElem?_eq_some_iff.1 hx).1
  obtain ⟨⟨y, hy, hyo, hya⟩, hno⟩ := hR i x hi hx ho
  have hr : roundAt T x.b = some i := by
    have h1 := round_snoc hx x.b
    rw [hno] at h1
    simp only [ho, and_self, if_true] at h1
    exact round_pre h1
  refine ⟨loopOf T (x.b - 1).toNat y, loops_mem.2 ⟨_, y, (List.getElem?_eq_some_iff.1 hy).1, hy, hyo, rfl⟩, ?_, ?_⟩
  · simp [loopOf]
    omega
  · unfold loopOf
    rw [show (((x.b - 1).toNat : Nat) : Int) + 1 = x.b by omega, hr]
    rfl
theorem reach_first (T : List IN) : Reach T (first T.length) := by
  intro l hl p hp h0
  have := (loops_fr hl).1
  have h1 : p = 0 := by
    by_cases h : p = 0
    · exact h
    · exfalso
      unfold hAt first at h0
      rw [List.getD_eq_getElem?_getD, show ((p : Int).toNat) = (p - 1) + 1 by omega, List.getElem?_cons_succ] at h0
      cases e : (List.replicate T.length (-1 : Int))[p - 1]? with
      | none => rw [e] at h0; simp at h0
      | some v =>
        have := (List.mem_replicate.1 (List.mem_of_getElem? e)).2
        rw [e, this] at h0
        simp at h0
  have := hp.1
  omega
theorem reach_step {T : List IN} (hR : RoundOk T T.length) (hJ : JumpsOk T (loopsTo T T.length) T.length) {i : Nat} {x : IN} (hx : T[i]? = some x)
    (hb : (x.op = 11 ∨ x.op = 12 → (i : Int) < x.a ∧ x.a ≤ T.length) ∧ (x.op = 14 → 1 ≤ x.b ∧ x.b ≤ i)) {H H' : List Int} (hl : H.length = T.length + 1) (hr : Reach T H) (hs : stepF H i x = some H') : Reach T H' := by
  have hi := (List.getElem?_eq_some_iff.1 hx).1
  unfold stepF at hs
  split at hs
  · injection hs with hs; rw [← hs]; exact hr
  · split at hs
    · cases hs
    · rename_i h1 h2
      split at hs
      · injection hs with hs
        have hh : 0 ≤ hAt H i - takesF x + leavesF x := by have := (leaves_bd x).1; omega
        have hbt : ∀ t ∈ tsF i x, 0 ≤ t ∧ t < H.length := by
          intro t ht
          rw [hl]
          unfold tsF at ht
          simp only [List.mem_append] at ht
          rcases ht with ht | ht | ht
          · split at ht
            · cases ht
            · obtain rfl := List.mem_singleton.1 ht; omega
          · split at ht
            · rename_i ho
              obtain rfl := List.mem_singleton.1 ht
              have := hb.1 ho
              omega
            · cases ht
          · split at ht
            · rename_i ho
              obtain rfl := List.mem_singleton.1 ht
              have := hb.2 ho
              omega
            · cases ht
        intro l hlm p hp h0
        rw [← hs] at h0 ⊢
        rw [hAt_all hbt (by omega)] at h0 ⊢
        have up : 0 ≤ hAt H l.fr → 0 ≤ (if (l.fr : Int) ∈ tsF i x then hAt H i - takesF x + leavesF x else hAt H l.fr) := fun h => by split <;> assumption
        by_cases hpt : (p : Int) ∈ tsF i x
        · by_cases hpf : p = l.fr
          · subst hpf
            simp only [hpt, if_true]
            exact hh
          · refine up ?_
            have hin : inL l i ∨ 0 ≤ hAt H p := by
              unfold tsF at hpt
              simp only [List.mem_append] at hpt
              rcases hpt with ht | ht | ht
              · split at ht
                · cases ht
                · have := List.mem_singleton.1 ht
                  refine .inl ⟨?_, ?_⟩
                  · have := hp.1; omega
                  · have := hp.2; omega
              · split at ht
                · rename_i ho
                  have := List.mem_singleton.1 ht
                  left
                  have h3 := hJ i x hi hx ho l hlm
                  rw [← this] at h3
                  exact Classical.byContradiction fun h4 => h3 ⟨hp, h4⟩
                · cases ht
              · split at ht
                · rename_i ho
                  have h3 := List.mem_singleton.1 ht
                  right
                  obtain ⟨s, hsm, hsf, hst⟩ := round_is hR hx ho (hb.2 ho).1
                  have h4 := hr s hsm i ⟨by rw [hsf]; exact (hb.2 ho).2, by rw [hst]; omega⟩ (by omega)
                  rw [hsf, ← h3] at h4
                  exact h4
                · cases ht
            rcases hin with h3 | h3
            · exact hr l hlm i h3 (by omega)
            · exact hr l hlm p hp h3
        · simp only [hpt, if_false] at h0
          exact up (hr l hlm p hp h0)
      · cases hs
end Go.Proofs.YtiogcbckhaknmaaDoor.Vf
