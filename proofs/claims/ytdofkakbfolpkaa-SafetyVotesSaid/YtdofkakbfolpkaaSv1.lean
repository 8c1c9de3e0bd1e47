/-
  More demands never come later, plainly; a list turned round by exchanges. No conditions: plain lemmas.
-/
import Derived.Test.YtdofkakbfolpkaaSh4
namespace Go.Proofs.Ytdofkakbfolpkaa.Sf
open Go.RowKit Go.Proofs.Ytdofkakbfolpkaa.W Go.Proofs.Ytdofkakbfolpkaa.Ints Go.Proofs.Ytdofkakbfolpkaa.Pop Go.Proofs.Ytdofkakbfolpkaa.Keep

/-! ### the order of a vote's sensors -/
def revP (p : Int × List Int) : Int × List Int := (p.1, p.2.reverse)
theorem votes_rev (told of : List Int) : votesOn told of.reverse = votesOn told of := by
  unfold votesOn
  rw [List.filter_reverse, List.length_reverse]
theorem holds_rev (told : List Int) (p : Int × List Int) : holdsB told (revP p) = holdsB told p := by
  unfold holdsB revP
  simp only [votes_rev]
theorem held_rev (d : Int) (told : List Int) (ps : List (Int × List Int)) (hs : List Int) : heldF d told (ps.map revP) hs = heldF d told ps hs := by
  unfold heldF
  rw [List.zipWith_map_left]
  congr 1
  funext p h
  unfold heldAt
  rw [holds_rev]
theorem any_rev (told : List Int) (ps : List (Int × List Int)) : (ps.map revP).any (holdsB told) = ps.any (holdsB told) := by
  rw [List.any_map]
  congr 1
  funext p
  exact holds_rev told p
theorem next_rev (d : Int) (ps : List (Int × List Int)) (T : TR) (told : List Int) (key : Bool) : nextF d (ps.map revP) T told key = nextF d ps T told key := by
  unfold nextF
  rw [held_rev, any_rev]
theorem bad_rev (m : Int) (p : Int × List Int) : badV m (revP p) = badV m p := by
  have h1 : (revP p).2.Nodup ↔ p.2.Nodup := by
    unfold revP List.Nodup
    rw [List.pairwise_reverse]
    exact ⟨fun h => h.imp (fun h => h.symm), fun h => h.imp (fun h => h.symm)⟩
  have h2 : (revP p).2.length = p.2.length := by simp [revP]
  have h3 : (revP p).2.any (outB 0 m) = p.2.any (outB 0 m) := by simp [revP]
  unfold badV codeF
  rw [h2, h3]
  have h4 : (revP p).1 = p.1 := rfl
  rw [h4]
  by_cases hn : p.2.Nodup
  · simp only [if_pos hn, if_pos (h1.2 hn)]
  · simp only [if_neg hn, if_neg (fun h => hn (h1.1 h))]
theorem guard_rev {m d : Int} {ps : List (Int × List Int)} (h : guardF m d ps = (0, 0)) : guardF m d (ps.map revP) = (0, 0) := by
  obtain ⟨h1, h2, h3, h4, h5, h6, h7⟩ := guard_len (m := m) (d := d) (ps := ps) (by rw [h])
  have hs : ¬ sizeBad m (ps.map revP) := by unfold sizeBad; rw [List.length_map]; omega
  refine (guard_ok hs (by omega) ?_).1
  rw [List.any_map, ← h7]
  congr 1
  funext p
  exact bad_rev m p

/-! ### more demands -/
def louder (told loud : List Int) : Prop := ∀ i : Nat, told.getD i 0 ≠ 0 → loud.getD i 0 ≠ 0
theorem votes_more {told loud : List Int} (h : louder told loud) (of : List Int) : votesOn told of ≤ votesOn loud of := by
  unfold votesOn
  induction of with
  | nil => exact Nat.le_refl _
  | cons a of ih =>
    rw [List.filter_cons, List.filter_cons]
    have h1 := h a.toNat
    by_cases ha : told.getD a.toNat 0 = 0
    · rw [if_neg (by rw [ha]; decide)]
      split
      · rw [List.length_cons]; omega
      · exact ih
    · rw [if_pos (bne_iff_ne.2 ha), if_pos (bne_iff_ne.2 (h1 ha))]
      simp only [List.length_cons]
      omega
theorem holds_more {told loud : List Int} (h : louder told loud) (p : Int × List Int) (hp : holdsB told p = true) : holdsB loud p = true := by
  unfold holdsB at hp ⊢
  have := votes_more h p.2
  simp only [decide_eq_true_eq] at hp ⊢
  omega
def leL : List Int → List Int → Prop
  | [], [] => True
  | a :: xs, b :: ys => (a ≤ b ∧ 0 ≤ b) ∧ leL xs ys
  | _, _ => False
theorem held_more {d : Int} {told loud : List Int} (hd : 0 ≤ d) (h : louder told loud) : ∀ (ps : List (Int × List Int)) (hs hu : List Int), leL hs hu → leL (heldF d told ps hs) (heldF d loud ps hu)
  | [], hs, hu, _ => by simp [heldF, leL]
  | p :: ps, [], [], _ => by simp [heldF, leL]
  | p :: ps, [], b :: hu, h2 => by cases h2
  | p :: ps, a :: hs, [], h2 => by cases h2
  | p :: ps, a :: hs, b :: hu, h2 => by
    obtain ⟨h1, h2⟩ := h2
    have ih := held_more hd h ps _ _ h2
    unfold heldF at ih ⊢
    rw [List.zipWith_cons_cons, List.zipWith_cons_cons]
    refine ⟨?_, ih⟩
    unfold heldAt
    have hm := holds_more h p
    by_cases hp : holdsB told p = true
    · rw [if_pos hp, if_pos (hm hp)]
      repeat' split
      all_goals omega
    · rw [if_neg hp]
      repeat' split
      all_goals omega
theorem held_le {d : Int} {told : List Int} {ps : List (Int × List Int)} {hs : List Int} (hd : 0 ≤ d) : ∀ x ∈ heldF d told ps hs, x ≤ d + 1 := by
  intro x hx
  obtain ⟨k, hk, rfl⟩ := List.mem_iff_getElem.1 hx
  simp only [heldF, List.getElem_zipWith, heldAt]
  repeat' split
  all_goals omega
theorem mem_more {v : Int} : ∀ {xs ys : List Int}, leL xs ys → (∀ y ∈ ys, y ≤ v) → v ∈ xs → v ∈ ys
  | [], [], _, _, hm => by cases hm
  | [], b :: ys, h, _, _ => by cases h
  | a :: xs, [], h, _, _ => by cases h
  | a :: xs, b :: ys, h, hy, hm => by
    rw [List.mem_cons] at hm ⊢
    rcases hm with rfl | hm
    · have := hy b (List.mem_cons_self ..)
      have := h.1.1
      left
      omega
    · exact .inr (mem_more h.2 (fun y h => hy y (List.mem_cons_of_mem _ h)) hm)
theorem idx_more {v : Int} {xs ys : List Int} (h : leL xs ys) (hy : ∀ y ∈ ys, y ≤ v) (hx : 0 ≤ idxOf v xs) : 0 ≤ idxOf v ys := by
  have hmem : v ∈ xs := by
    unfold idxOf at hx
    cases hf : xs.findIdx? (fun x => v == x) with
    | none => rw [hf] at hx; simp at hx
    | some k =>
      rw [List.findIdx?_eq_some_iff_getElem] at hf
      obtain ⟨hk, hb, _⟩ := hf
      have : v = xs[k] := by simpa using hb
      rw [this]
      exact List.getElem_mem _
  have hmem2 : v ∈ ys := mem_more h hy hmem
  unfold idxOf
  cases hf : ys.findIdx? (fun x => v == x) with
  | some k => simp
  | none =>
    rw [List.findIdx?_eq_none_iff] at hf
    have := hf v hmem2
    simp at this
/-- two trips, one of which was told more -/
structure More (T U : TR) : Prop where
  down : T.down = true → U.down = true
  held : leL T.held U.held
theorem more_next {d : Int} {ps : List (Int × List Int)} {T U : TR} {told loud : List Int} (hd : 0 ≤ d) (h : louder told loud) (hm : More T U) : More (nextF d ps T told false) (nextF d ps U loud false) := by
  have hh := held_more hd h ps _ _ hm.held
  have hi := idx_more (v := d + 1) hh (held_le hd)
  have e : ∀ (X : TR) (td : List Int), nextF d ps X td false = if X.down = false then ⟨decide (0 ≤ idxOf (d + 1) (heldF d td ps X.held)), idxOf (d + 1) (heldF d td ps X.held), heldF d td ps X.held, false⟩ else ⟨X.down, X.first, heldF d td ps X.held, false⟩ := fun X td => by
    unfold nextF
    split
    · rfl
    · rw [if_neg (by simp)]
  rw [e, e]
  refine ⟨?_, ?_⟩
  · intro hT
    have hd1 := hm.down
    cases hu : U.down
    · cases ht : T.down
      · rw [ht, if_pos rfl] at hT
        rw [if_pos rfl]
        simp only [decide_eq_true_eq] at hT ⊢
        exact hi hT
      · rw [hd1 ht] at hu
        cases hu
    · rw [if_neg (by decide)]
  · split
    · split
      · exact hh
      · exact hh
    · split
      · exact hh
      · exact hh
/-- what is down stays down where no key is turned -/
theorem down_next {d : Int} {ps : List (Int × List Int)} {T : TR} {told : List Int} (h : T.down = true) : (nextF d ps T told false).down = true := by
  unfold nextF
  rw [h, if_neg (by decide), if_neg (by simp)]
theorem key_next {d : Int} {ps : List (Int × List Int)} {T : TR} {told : List Int} {key : Bool} : (nextF d ps T told key).key = key := by
  unfold nextF
  repeat' split
  all_goals rfl
theorem held_next {d : Int} {ps : List (Int × List Int)} {T : TR} {told : List Int} {key : Bool} : (nextF d ps T told key).held = heldF d told ps T.held := by
  unfold nextF
  repeat' split
  all_goals rfl
/-- a trip that stands still stands behind a step -/
theorem stands_next {d : Int} {ps : List (Int × List Int)} {T : TR} {told : List Int} {key : Bool} (hd : 0 ≤ d) (h : standsB d ps.length T = true) : standsB d ps.length (nextF d ps T told key) = true := by
  obtain ⟨h1, h2, h3⟩ := stands_parts h
  have hl := held_len (d := d) (told := told) h1
  have hb := idx_lt (v := d + 1) (xs := heldF d told ps T.held)
  rw [hl] at hb
  have ha : (heldF d told ps T.held).any (outB 0 (d + 2)) = false := by
    rw [List.any_eq_false]
    intro x hx
    obtain ⟨k, hk, rfl⟩ := List.mem_iff_getElem.1 hx
    have hk' := hk
    simp only [heldF, List.length_zipWith] at hk'
    have hin := in_of_not_any' h2 (T.held[k]'(by omega)) (List.getElem_mem _)
    simp only [heldF, List.getElem_zipWith, heldAt, outB]
    repeat' split
    all_goals simp
    all_goals omega
  have hk : ∀ (down : Bool) (first : Int), ((down = false ∧ first = -1) ∨ (down = true ∧ 0 ≤ first ∧ first < ps.length)) → standsB d ps.length ⟨down, first, heldF d told ps T.held, key⟩ = true := by
    intro down first hf
    unfold standsB
    rcases hf with ⟨rfl, rfl⟩ | ⟨rfl, h1, h2⟩
    · simp [hl, ha]
      omega
    · simp [hl, ha, h1, h2]
      omega
  unfold nextF
  split
  · refine hk _ _ ?_
    by_cases h0 : 0 ≤ idxOf (d + 1) (heldF d told ps T.held)
    · exact .inr ⟨decide_eq_true h0, h0, hb.2⟩
    · exact .inl ⟨decide_eq_false h0, by omega⟩
  · split
    · exact hk _ _ (.inl ⟨rfl, rfl⟩)
    · rename_i hdn _
      rcases h3 with ⟨h4, _⟩ | h4
      · exact absurd h4 hdn
      · exact hk _ _ (.inr h4)

/-! ### it can be taken down -/
def loudest : List Int := [1, 1, 2, 0, 0, 0]
theorem loudest_held (d : Int) (ps : List (Int × List Int)) (x : Int) (hs : List Int) : heldF d loudest ((2, [0, 1, 2]) :: ps) (x :: hs) = (if d + 1 ≤ x + 1 then d + 1 else x + 1) :: heldF d loudest ps hs := by
  unfold heldF
  rw [List.zipWith_cons_cons]
  congr 1
end Go.Proofs.Ytdofkakbfolpkaa.Sf
