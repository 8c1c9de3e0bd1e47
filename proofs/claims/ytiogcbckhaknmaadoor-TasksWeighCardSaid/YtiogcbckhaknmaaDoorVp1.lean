/-
  Loops of a text, in plain words: which rounds go with which enters; which loops may be. No conditions: plain lemmas.
-/
import Derived.Test.YtiogcbckhaknmaaDoorCod1
namespace Go.Proofs.YtiogcbckhaknmaaDoor.Vf
open Go.RowKit Go.Proofs.YtiogcbckhaknmaaDoor.W Go.Proofs.YtiogcbckhaknmaaDoor.Ints Go.Proofs.YtiogcbckhaknmaaDoor.Cod

/-- a loop -/
structure LP where
  fr : Nat
  to : Nat
  counter : Int
  times : Int
deriving DecidableEq
def LP.cs (l : LP) : List Value := [.int .i64 l.fr, .int .i64 l.to, .int .i64 l.counter, .int .i64 l.times]
theorem LP.size (l : LP) : l.cs.length = 4 := rfl
abbrev loopsV (l : List LP) : List Value := l.flatMap LP.cs
/-- the first Round that goes back to a place -/
def roundAt (T : List IN) (k : Int) : Option Nat := T.findIdx? fun x => x.op == 14 && x.b == k
def loopOf (T : List IN) (i : Nat) (x : IN) : LP := ⟨i + 1, (roundAt T ((i : Int) + 1)).getD 0, x.a, x.b⟩
def loopAt (T : List IN) (k : Nat) : List LP := match T[k]? with | some x => if x.op = 13 then [loopOf T k x] else [] | none => []
def loopsTo (T : List IN) : Nat → List LP
  | 0 => []
  | k + 1 => loopsTo T k ++ loopAt T k
def enterOk (T : List IN) (i : Nat) (x : IN) : Bool := match roundAt T ((i : Int) + 1) with | some r => decide (i + 1 ≤ r) && (match T[r]? with | some y => y.a == x.a | none => false) | none => false
def entersOk (T : List IN) (k : Nat) : Prop := ∀ i x, i < k → T[i]? = some x → x.op = 13 → enterOk T i x = true
def roundsF (T : List IN) : List Int := (T.filter fun x => x.op == 14).map IN.b
def pairOk (a b : LP) : Prop := a.to < b.fr ∨ (b.to < a.to ∧ a.counter ≠ b.counter)
structure LoopsOk (T : List IN) : Prop where
  enters : entersOk T T.length
  count : (roundsF T).length = (loopsTo T T.length).length
  pairs : (loopsTo T T.length).Pairwise pairOk
def inL (l : LP) (k : Int) : Prop := (l.fr : Int) ≤ k ∧ k ≤ (l.to : Int)
instance (l : LP) (k : Int) : Decidable (inL l k) := inferInstanceAs (Decidable (_ ∧ _))
def JumpsOk (T : List IN) (L : List LP) (k : Nat) : Prop := ∀ i x, i < k → T[i]? = some x → x.op = 11 ∨ x.op = 12 → ∀ l ∈ L, ¬ (inL l x.a ∧ ¬ inL l i)

theorem loops_snoc {T : List IN} {k : Nat} {x : IN} (h : T[k]? = some x) (hx : x.op = 13) : loopsTo T (k + 1) = loopsTo T k ++ [loopOf T k x] := by
  show loopsTo T k ++ loopAt T k = _
  rw [loopAt, h]
  simp [hx]
theorem loops_same {T : List IN} {k : Nat} {x : IN} (h : T[k]? = some x) (hx : ¬ x.op = 13) : loopsTo T (k + 1) = loopsTo T k := by
  show loopsTo T k ++ loopAt T k = _
  rw [loopAt, h]
  simp [hx]
theorem loops_mem {T : List IN} : ∀ {k : Nat} {l : LP}, l ∈ loopsTo T k ↔ ∃ i x, i < k ∧ T[i]? = some x ∧ x.op = 13 ∧ l = loopOf T i x
  | 0, l => by simp [loopsTo]
  | k + 1, l => by
    rw [loopsTo, List.mem_append, loops_mem (k := k)]
    constructor
    · rintro (⟨i, x, h1, h2, h3, h4⟩ | h)
      · exact ⟨i, x, by omega, h2, h3, h4⟩
      · unfold loopAt at h
        split at h
        · rename_i x hx
          split at h
          · rename_i ho
            exact ⟨k, x, by omega, hx, ho, by simpa using h⟩
          · simp at h
        · simp at h
    · rintro ⟨i, x, h1, h2, h3, h4⟩
      by_cases hi : i < k
      · exact .inl ⟨i, x, hi, h2, h3, h4⟩
      · obtain rfl : i = k := by omega
        right
        rw [loopAt, h2]
        simp [h3, h4]
theorem loops_len {T : List IN} : ∀ k, (loopsTo T k).length ≤ k
  | 0 => Nat.le_refl _
  | k + 1 => by
    rw [loopsTo, List.length_append]
    have := loops_len (T := T) k
    have : (loopAt T k).length ≤ 1 := by
      unfold loopAt
      split
      · split <;> simp
      · simp
    omega
theorem loops_fr {T : List IN} {k : Nat} {l : LP} (h : l ∈ loopsTo T k) : 1 ≤ l.fr ∧ l.fr ≤ k := by
  obtain ⟨i, x, h1, _, _, rfl⟩ := loops_mem.1 h
  simp [loopOf]
  omega
/-- the loops stand in the order of their beginnings -/
theorem loops_sorted {T : List IN} : ∀ k, (loopsTo T k).Pairwise fun a b => a.fr < b.fr
  | 0 => .nil
  | k + 1 => by
    rw [loopsTo]
    refine List.pairwise_append.2 ⟨loops_sorted k, ?_, fun a ha b hb => ?_⟩
    · unfold loopAt
      split
      · split
        · exact List.pairwise_singleton _ _
        · exact .nil
      · exact .nil
    · have h1 := (loops_fr ha).2
      have h2 : b ∈ loopsTo T (k + 1) := by rw [loopsTo]; exact List.mem_append_right _ hb
      unfold loopAt at hb
      split at hb
      · split at hb
        · obtain rfl := List.mem_singleton.1 hb
          simp [loopOf]
          omega
        · cases hb
      · cases hb
/-! ### as many rounds as enters -/
theorem perm_of {α : Type} [DecidableEq α] : ∀ {E B : List α}, E.Nodup → (∀ x ∈ E, x ∈ B) → B.length = E.length → E.Perm B
  | [], B, _, _, hl => by
    have : B = [] := List.eq_nil_of_length_eq_zero hl
    rw [this]
  | a :: E, B, hn, hs, hl => by
    have hn' := List.nodup_cons.1 hn
    have ha := hs a (by simp)
    have h1 := List.perm_cons_erase ha
    refine (List.Perm.cons a (perm_of hn'.2 (fun x hx => ?_) ?_)).trans h1.symm
    · have : x ≠ a := fun e => hn'.1 (e ▸ hx)
      exact (List.mem_erase_of_ne this).2 (hs x (by simp [hx]))
    · rw [List.length_erase_of_mem ha, hl]
      simp
theorem nodup_le {α : Type} [DecidableEq α] : ∀ {E B : List α}, E.Nodup → (∀ x ∈ E, x ∈ B) → E.length ≤ B.length
  | [], B, _, _ => Nat.zero_le _
  | a :: E, B, hn, hs => by
    have hn' := List.nodup_cons.1 hn
    have ha := hs a (by simp)
    have := nodup_le (B := B.erase a) hn'.2 (fun x hx => (List.mem_erase_of_ne (fun e : x = a => hn'.1 (by rw [← e]; exact hx))).2 (hs x (by simp [hx])))
    rw [List.length_erase_of_mem ha] at this
    have := List.length_pos_of_mem ha
    simp
    omega
def frL (T : List IN) (k : Nat) : List Int := (loopsTo T k).map fun l => (l.fr : Int)
theorem fr_mem {T : List IN} {k : Nat} {e : Int} : e ∈ frL T k ↔ ∃ (i : Nat) (x : IN), i < k ∧ T[i]? = some x ∧ x.op = 13 ∧ e = (i : Int) + 1 := by
  unfold frL
  rw [List.mem_map]
  constructor
  · rintro ⟨l, hl, rfl⟩
    obtain ⟨i, x, h1, h2, h3, rfl⟩ := loops_mem.1 hl
    exact ⟨i, x, h1, h2, h3, by simp [loopOf]⟩
  · rintro ⟨i, x, h1, h2, h3, rfl⟩
    exact ⟨loopOf T i x, loops_mem.2 ⟨i, x, h1, h2, h3, rfl⟩, by simp [loopOf]⟩
theorem fr_nodup (T : List IN) (k : Nat) : (frL T k).Nodup := by
  unfold frL List.Nodup
  rw [List.pairwise_map]
  exact (loops_sorted k).imp (fun {a b} h e => by omega)
theorem rounds_mem {T : List IN} {e : Int} : e ∈ roundsF T ↔ ∃ (k : Nat) (x : IN), T[k]? = some x ∧ x.op = 14 ∧ x.b = e := by
  unfold roundsF
  rw [List.mem_map]
  constructor
  · rintro ⟨x, hx, rfl⟩
    obtain ⟨h1, h2⟩ := List.mem_filter.1 hx
    obtain ⟨k, hk⟩ := List.getElem?_of_mem h1
    exact ⟨k, x, hk, by simpa using h2, rfl⟩
  · rintro ⟨k, x, h1, h2, rfl⟩
    exact ⟨x, List.mem_filter.2 ⟨List.mem_of_getElem? h1, by simp [h2]⟩, rfl⟩
theorem round_some {T : List IN} {e : Int} {r : Nat} (h : roundAt T e = some r) : ∃ y, T[r]? = some y ∧ y.op = 14 ∧ y.b = e ∧ r < T.length := by
  unfold roundAt at h
  rw [List.findIdx?_eq_some_iff_getElem] at h
  obtain ⟨h1, h2, _⟩ := h
  simp only [Bool.and_eq_true, beq_iff_eq] at h2
  exact ⟨T[r], List.getElem?_eq_getElem h1, h2.1, h2.2, h1⟩
theorem round_none {T : List IN} {e : Int} (h : roundAt T e = none) {k : Nat} {x : IN} (hk : T[k]? = some x) (ho : x.op = 14) (hb : x.b = e) : False := by
  unfold roundAt at h
  rw [List.findIdx?_eq_none_iff] at h
  have := h x (List.mem_of_getElem? hk)
  simp [ho, hb] at this
theorem round_ex {T : List IN} {e : Int} {k : Nat} {x : IN} (hk : T[k]? = some x) (ho : x.op = 14) (hb : x.b = e) : ∃ r, roundAt T e = some r := by
  cases h : roundAt T e with
  | some r => exact ⟨r, rfl⟩
  | none => exact (round_none h hk ho hb).elim
/-- what the program's first look at each Round asks -/
def RoundOk (T : List IN) (k : Nat) : Prop := ∀ i x, i < k → T[i]? = some x → x.op = 14 → (∃ y, T[(x.b - 1).toNat]? = some y ∧ y.op = 13 ∧ y.a = x.a) ∧ roundAt (T.take i) x.b = none
theorem rounds_take {T : List IN} {k : Nat} {x : IN} (h : T[k]? = some x) : roundsF T = roundsF (T.take k) ++ (if x.op = 14 then [x.b] else []) ++ roundsF (T.drop (k + 1)) := by
  have e : T = T.take k ++ x :: T.drop (k + 1) := by
    obtain ⟨hk, hx⟩ := List.getElem?_eq_some_iff.1 h
    rw [← hx, List.getElem_cons_drop hk, List.take_append_drop]
  have : roundsF (T.take k ++ x :: T.drop (k + 1)) = roundsF (T.take k) ++ (if x.op = 14 then [x.b] else []) ++ roundsF (T.drop (k + 1)) := by
    unfold roundsF
    rw [List.filter_append, List.filter_cons]
    by_cases hx : x.op = 14 <;> simp [hx]
  rw [← e] at this
  exact this
theorem rounds_nodup {T : List IN} (h : RoundOk T T.length) : (roundsF T).Nodup := by
  have key : ∀ k, k ≤ T.length → (roundsF (T.take k)).Nodup := by
    intro k
    induction k with
    | zero => intro _; simp [roundsF]
    | succ k ih =>
      intro hk
      have hx : T[k]? = some T[k] := List.getElem?_eq_getElem (by omega)
      have hx' : (T.take (k + 1))[k]? = some T[k] := by rw [List.getElem?_take_of_lt (by omega)]; exact hx
      rw [rounds_take hx', List.take_take, Nat.min_eq_left (by omega), List.drop_of_length_le (by simp; omega)]
      by_cases ho : T[k].op = 14
      · simp only [ho, if_true]
        have hno := (h k _ (by omega) hx ho).2
        simp only [roundsF, List.filter_nil, List.map_nil, List.append_nil]
        refine List.nodup_append.2 ⟨ih (by omega), by simp, fun a ha b hb e => ?_⟩
        obtain rfl := List.mem_singleton.1 hb
        subst e
        obtain ⟨j, y, hj, hyo, hyb⟩ := rounds_mem.1 ha
        exact round_none hno hj hyo hyb
      · simp only [ho, if_false]
        simpa [roundsF] using ih (by omega)
  have := key T.length (Nat.le_refl _)
  rwa [List.take_length] at this
/-- a Round that does not pass: the loops may not be -/
theorem round_bad {T : List IN} (hL : LoopsOk T) : RoundOk T T.length := by
  have hperm : (frL T T.length).Perm (roundsF T) := by
    refine perm_of (fr_nodup _ _) (fun e he => ?_) ?_
    · obtain ⟨i, x, h1, h2, h3, rfl⟩ := fr_mem.1 he
      have h4 := hL.enters i x h1 h2 h3
      unfold enterOk at h4
      split at h4
      · rename_i r hr
        obtain ⟨y, hy, ho, hb, _⟩ := round_some hr
        exact rounds_mem.2 ⟨r, y, hy, ho, hb⟩
      · cases h4
    · rw [hL.count]
      simp [frL]
  have hnd : (roundsF T).Nodup := hperm.nodup_iff.1 (fr_nodup _ _)
  intro i x hi hx ho
  have hno : roundAt (T.take i) x.b = none := by
    cases hr : roundAt (T.take i) x.b with
    | none => rfl
    | some r =>
      obtain ⟨y, hy, hyo, hyb, _⟩ := round_some hr
      rw [rounds_take hx, if_pos ho] at hnd
      have h1 := (List.nodup_append.1 (List.nodup_append.1 hnd).1).2.2
      exact (h1 x.b (rounds_mem.2 ⟨r, y, hy, hyo, hyb⟩) x.b (by simp) rfl).elim
  have hmem : x.b ∈ frL T T.length := hperm.mem_iff.2 (rounds_mem.2 ⟨i, x, hx, ho, rfl⟩)
  obtain ⟨j, y, h1, h2, h3, h4⟩ := fr_mem.1 hmem
  refine ⟨⟨y, by rw [h4]; simpa using h2, h3, ?_⟩, hno⟩
  have h5 := hL.enters j y h1 h2 h3
  unfold enterOk at h5
  split at h5
  · rename_i r hr
    have : r = i := by
      rw [← h4] at hr
      unfold roundAt at hr hno
      rw [List.findIdx?_eq_some_iff_getElem] at hr
      obtain ⟨hr1, hr2, hr3⟩ := hr
      rcases Nat.lt_trichotomy r i with hlt | heq | hgt
      · rw [List.findIdx?_eq_none_iff] at hno
        have hm : T[r] ∈ T.take i := List.mem_iff_getElem?.2 ⟨r, by rw [List.getElem?_take_of_lt hlt]; exact List.getElem?_eq_getElem hr1⟩
        have := hno _ hm
        rw [hr2] at this
        cases this
      · exact heq
      · have := hr3 i hgt
        obtain ⟨hi', hx'⟩ := List.getElem?_eq_some_iff.1 hx
        rw [hx'] at this
        simp [ho] at this
    subst this
    rw [hx] at h5
    simp only [Bool.and_eq_true, beq_iff_eq] at h5
    exact h5.2.symm
  · cases h5
/-- Rounds that pass, and a Round for each Enter: as many, and each goes with its own -/
theorem round_good {T : List IN} (hR : RoundOk T T.length) (hb : ∀ (i : Nat) (x : IN), T[i]? = some x → x.op = 14 → 1 ≤ x.b ∧ x.b ≤ i) (hE : ∀ (i : Nat) (x : IN), T[i]? = some x → x.op = 13 → ∃ r, roundAt T ((i : Int) + 1) = some r) :
    entersOk T T.length ∧ (roundsF T).length = (loopsTo T T.length).length := by
  constructor
  · intro i x hi hx ho
    obtain ⟨r, hr⟩ := hE i x hx ho
    obtain ⟨y, hy, hyo, hyb, hrl⟩ := round_some hr
    unfold enterOk
    rw [hr]
    obtain ⟨⟨z, hz, hzo, hza⟩, _⟩ := hR r y hrl hy hyo
    rw [hyb, show ((i : Int) + 1 - 1).toNat = i by omega, hx] at hz
    obtain rfl := Option.some.inj hz
    have := (hb r y hy hyo).2
    simp only [hy, hza, Bool.and_eq_true, decide_eq_true_eq, beq_self_eq_true, and_true]
    omega
  · have h1 : (roundsF T).length ≤ (frL T T.length).length := by
      refine nodup_le (rounds_nodup hR) fun e he => ?_
      obtain ⟨k, x, h1, h2, rfl⟩ := rounds_mem.1 he
      have hk := (List.getElem?_eq_some_iff.1 h1).1
      obtain ⟨⟨y, hy, hyo, _⟩, _⟩ := hR k x hk h1 h2
      have := hb k x h1 h2
      exact fr_mem.2 ⟨(x.b - 1).toNat, y, by omega, hy, hyo, by omega⟩
    have h2 : (frL T T.length).length ≤ (roundsF T).length := by
      refine nodup_le (fr_nodup _ _) fun e he => ?_
      obtain ⟨i, x, h1, h2, h3, rfl⟩ := fr_mem.1 he
      obtain ⟨r, hr⟩ := hE i x h2 h3
      obtain ⟨y, hy, hyo, hyb, _⟩ := round_some hr
      exact rounds_mem.2 ⟨r, y, hy, hyo, hyb⟩
    simp [frL] at h1 h2
    omega
/-! ### the loops that are open -/
def Dec (o : List LP) : Prop := o.Pairwise fun a b => b.to < a.to
def openAt (T : List IN) (k i : Nat) : List LP := (loopsTo T k).filter fun l => decide (i ≤ l.to)
theorem dec_take {o : List LP} (h : Dec o) (j : Nat) : Dec (o.take j) := h.sublist (List.take_sublist _ _)
/-- what is taken off is below, what stays is not -/
theorem open_pop {o : List LP} {k j : Nat} (hd : Dec o) (hlow : ∀ l ∈ o.drop j, l.to < k) (htop : ∀ l, (o.take j).getLast? = some l → k ≤ l.to) : o.take j = o.filter fun l => decide (k ≤ l.to) := by
  have e : o = o.take j ++ o.drop j := (List.take_append_drop j o).symm
  have h1 : (o.drop j).filter (fun l => decide (k ≤ l.to)) = [] := by
    rw [List.filter_eq_nil_iff]
    intro l hl
    have := hlow l hl
    simp
    omega
  have h2 : (o.take j).filter (fun l => decide (k ≤ l.to)) = o.take j := by
    rw [List.filter_eq_self]
    intro l hl
    have hdt := dec_take hd j
    cases hg : (o.take j).getLast? with
    | none => rw [List.getLast?_eq_none_iff] at hg; rw [hg] at hl; cases hl
    | some t =>
      have ht := htop t hg
      obtain ⟨ys, hys⟩ := List.getLast?_eq_some_iff.1 hg
      rw [hys] at hl hdt
      rcases List.mem_append.1 hl with h | h
      · have := (List.pairwise_append.1 hdt).2.2 l h t (by simp)
        simp
        omega
      · obtain rfl := List.mem_singleton.1 h
        simpa using ht
  have h3 : o.filter (fun l => decide (k ≤ l.to)) = (o.take j).filter (fun l => decide (k ≤ l.to)) ++ (o.drop j).filter (fun l => decide (k ≤ l.to)) := by
    rw [← List.filter_append, List.take_append_drop]
  rw [h3, h2, h1, List.append_nil]
theorem open_more {T : List IN} {k i i' : Nat} (h : i ≤ i') : (openAt T k i).filter (fun l => decide (i' ≤ l.to)) = openAt T k i' := by
  unfold openAt
  rw [List.filter_filter]
  refine List.filter_congr fun l _ => ?_
  simp only [← Bool.decide_and]
  exact decide_eq_decide.2 (by omega)
end Go.Proofs.YtiogcbckhaknmaaDoor.Vf
