/-
  What literals say, in plain words: digits of a base, numbers, times. No conditions: plain lemmas.
-/
import Derived.Test.YtckjnlonijodcaaDoorCell1
namespace Go.Proofs.YtckjnlonijodcaaDoor.Tx
open Go.RowKit Go.Proofs.YtckjnlonijodcaaDoor.W Go.Proofs.YtckjnlonijodcaaDoor.Num Go.Proofs.YtckjnlonijodcaaDoor.Cell

def lidN : Nat := 1099511627776
def farN : Nat := 4398046511104
/-- what a digit says (99: it is none) -/
def dgV (c : UInt8) : Nat := if 48 ≤ c.toNat ∧ c.toNat ≤ 57 then c.toNat - 48 else if 97 ≤ c.toNat ∧ c.toNat ≤ 102 then c.toNat - 87 else 99
/-- digits of a base: what they say; n: what stands ahead says; g: a digit stands right ahead -/
def digF (base : Nat) : List UInt8 → Nat → Bool → Option Nat
  | [], n, g => if g then some n else none
  | c :: l, n, g => if c.toNat = 95 ∧ g = true then digF base l n false else if dgV c < base then digF base l (n * base + dgV c) true else none
theorem dg_bd (c : UInt8) : dgV c ≤ 99 := by
  unfold dgV
  split
  · omega
  · split <;> omega
/-- may stand in digits -/
def isD (base : Nat) (c : UInt8) : Bool := decide (c.toNat = 95) || decide (dgV c < base)
theorem dig_all {base : Nat} : ∀ {l : List UInt8} {n : Nat} {g : Bool} {v : Nat}, digF base l n g = some v → ∀ c ∈ l, isD base c = true
  | [], _, _, _, _, c, hc => by cases hc
  | d :: l, n, g, v, h, c, hc => by
    unfold digF at h
    have key : isD base d = true ∧ ∀ c ∈ l, isD base c = true := by
      split at h
      · rename_i e
        exact ⟨by simp [isD, e.1], fun c hc => dig_all h c hc⟩
      · split at h
        · rename_i e
          exact ⟨by simp [isD, e], fun c hc => dig_all h c hc⟩
        · cases h
    rcases List.mem_cons.1 hc with rfl | hc
    · exact key.1
    · exact key.2 c hc
theorem dig_none {base : Nat} {l : List UInt8} {c : UInt8} (hc : c ∈ l) (hd : isD base c = false) (n : Nat) (g : Bool) : digF base l n g = none := by
  cases h : digF base l n g with
  | none => rfl
  | some v => rw [dig_all h c hc] at hd; cases hd
/-- a letter that is none of these -/
theorem isD_of {base : Nat} (hb : base ≤ 16) {c : UInt8} (h : isD base c = true) : (48 ≤ c.toNat ∧ c.toNat ≤ 57) ∨ (97 ≤ c.toNat ∧ c.toNat ≤ 102) ∨ c.toNat = 95 := by
  unfold isD dgV at h
  simp only [Bool.or_eq_true, decide_eq_true_eq] at h
  split at h
  · omega
  · split at h
    · omega
    · omega
theorem isD_high {base : Nat} (hb : base ≤ 16) {c : UInt8} (h : 128 ≤ c.toNat) : isD base c = false := by
  cases e : isD base c with
  | false => rfl
  | true => have := isD_of hb e; omega
theorem isD_ten (c : UInt8) : isD 10 c = (decide (c.toNat = 95) || (decide (48 ≤ c.toNat) && decide (c.toNat ≤ 57))) := by
  unfold isD dgV
  congr 1
  rw [Bool.eq_iff_iff]
  simp only [decide_eq_true_eq, Bool.and_eq_true]
  split
  · omega
  · split <;> omega
/-- capped or not -/
theorem cap_dig (N d b M : Nat) (hb : 1 ≤ b) : min (min N M * b + d) M = min (N * b + d) M := by
  rcases Nat.lt_or_ge N M with h | h
  · rw [Nat.min_eq_left (Nat.le_of_lt h)]
  · rw [Nat.min_eq_right h]
    have h1 : M ≤ M * b := Nat.le_mul_of_pos_right _ hb
    have h2 : M * b ≤ N * b := Nat.mul_le_mul_right _ h
    omega

def pre16 : List UInt8 := [49, 54, 35]
def pre2 : List UInt8 := [50, 35]
/-- a number without a sign -/
def numF (l : List UInt8) : Option Nat := if pre16.isPrefixOf l then digF 16 (l.drop 3) 0 false else if pre2.isPrefixOf l then digF 2 (l.drop 2) 0 false else digF 10 l 0 false
theorem pre_mem {p l : List UInt8} (h : p.isPrefixOf l = true) : l = p ++ l.drop p.length := by
  have := List.isPrefixOf_iff_prefix.1 h
  obtain ⟨t, rfl⟩ := this
  simp
theorem num_none {l : List UInt8} {c : UInt8} (hc : c ∈ l) (h : 128 ≤ c.toNat ∨ c.toNat = 45) : numF l = none := by
  have hd : ∀ base, base ≤ 16 → isD base c = false := by
    intro base hb
    cases e : isD base c with
    | false => rfl
    | true => have := isD_of hb e; omega
  unfold numF
  split
  · rename_i hp
    refine dig_none (c := c) ?_ (hd 16 (by omega)) _ _
    have e := pre_mem hp
    rw [e] at hc
    rcases List.mem_append.1 hc with h' | h'
    · simp only [pre16, List.mem_cons, List.not_mem_nil, or_false] at h'
      rcases h' with rfl | rfl | rfl <;> simp at h
    · exact h'
  · split
    · rename_i hp
      refine dig_none (c := c) ?_ (hd 2 (by omega)) _ _
      have e := pre_mem hp
      rw [e] at hc
      rcases List.mem_append.1 hc with h' | h'
      · simp only [pre2, List.mem_cons, List.not_mem_nil, or_false] at h'
        rcases h' with rfl | rfl <;> simp at h
      · exact h'
    · exact dig_none hc (hd 10 (by omega)) _ _

/-! ### times -/
/-- a unit at the beginning: its worth (0: none), its length -/
def unitF (l : List UInt8) : Nat × Nat :=
  if [109, 115].isPrefixOf l then (1, 2) else if [100].isPrefixOf l then (86400000, 1) else if [104].isPrefixOf l then (3600000, 1) else if [109].isPrefixOf l then (60000, 1) else if [115].isPrefixOf l then (1000, 1) else (0, 0)
theorem unit_len (l : List UInt8) : (unitF l).2 ≤ l.length ∧ ((unitF l).1 ≠ 0 → 1 ≤ (unitF l).2) ∧ (unitF l).1 ≤ 86400000 := by
  have key : ∀ p : List UInt8, p.isPrefixOf l = true → p.length ≤ l.length := fun p h => (List.isPrefixOf_iff_prefix.1 h).length_le
  unfold unitF
  repeat' split
  all_goals first
    | exact ⟨Nat.zero_le _, by simp, by simp⟩
    | (rename_i h; exact ⟨key _ h, by simp, by simp⟩)
/-- the parts of a time: what they say; last: the worth of the unit ahead; S: what stands ahead says -/
def timeF : Nat → List UInt8 → Nat → Nat → Option Nat
  | 0, _, _, _ => none
  | f + 1, l, last, S =>
    if l = [] then some S
    else match digF 10 (l.takeWhile (isD 10)) 0 false with
      | none => none
      | some n =>
        if l.dropWhile (isD 10) = [] then none
        else if (unitF (l.dropWhile (isD 10))).1 = 0 ∨ last ≤ (unitF (l.dropWhile (isD 10))).1 then none
        else timeF f ((l.dropWhile (isD 10)).drop (unitF (l.dropWhile (isD 10))).2) (unitF (l.dropWhile (isD 10))).1 (S + n * (unitF (l.dropWhile (isD 10))).1)
def tPre : List UInt8 := [116, 35]
def timePre : List UInt8 := [116, 105, 109, 101, 35]
def timeL (l : List UInt8) : Option Nat :=
  if tPre.isPrefixOf l then (if l.drop 2 = [] then none else timeF (l.length + 1) (l.drop 2) lidN 0)
  else if timePre.isPrefixOf l then (if l.drop 5 = [] then none else timeF (l.length + 1) (l.drop 5) lidN 0)
  else none
/-- enough steps: more make no difference -/
theorem time_more : ∀ (f : Nat) (l : List UInt8) (last S : Nat) (f' : Nat), l.length < f → l.length < f' → timeF f l last S = timeF f' l last S
  | 0, l, _, _, _, h, _ => by omega
  | f + 1, l, last, S, f', h, h' => by
    obtain ⟨f'', rfl⟩ : ∃ f'', f' = f'' + 1 := ⟨f' - 1, by omega⟩
    unfold timeF
    split
    · rfl
    · split
      · rfl
      · split
        · rfl
        · split
          · rfl
          · rename_i hr hu
            have h1 : (l.dropWhile (isD 10)).length ≤ l.length := (List.dropWhile_suffix _).length_le
            have h2 := (unit_len (l.dropWhile (isD 10))).2.1 (fun e => hu (.inl e))
            have h3 : 1 ≤ (l.dropWhile (isD 10)).length := by
              rcases hd : l.dropWhile (isD 10) with _ | ⟨a, b⟩
              · exact (hr hd).elim
              · simp
            refine time_more f _ _ _ f'' ?_ ?_ <;> (rw [List.length_drop]; omega)
theorem time_high : ∀ (f : Nat) {l : List UInt8} {c : UInt8} (last S : Nat), c ∈ l → 128 ≤ c.toNat → timeF f l last S = none
  | 0, _, _, _, _, _, _ => rfl
  | f + 1, l, c, last, S, hc, h => by
    unfold timeF
    rw [if_neg (List.ne_nil_of_mem hc)]
    split
    · rfl
    · split
      · rfl
      · split
        · rfl
        · refine time_high f _ _ ?_ h
          have e := List.takeWhile_append_dropWhile (p := isD 10) (l := l)
          have h1 : c ∈ l.dropWhile (isD 10) := by
            rw [← e] at hc
            rcases List.mem_append.1 hc with h' | h'
            · have := List.all_eq_true.1 (List.all_takeWhile (l := l) (p := isD 10)) c h'
              rw [isD_high (by omega) h] at this
              cases this
            · exact h'
          have h2 := List.take_append_drop (unitF (l.dropWhile (isD 10))).2 (l.dropWhile (isD 10))
          rw [← h2] at h1
          rcases List.mem_append.1 h1 with h' | h'
          · exfalso
            have key : ∀ p : List UInt8, p.isPrefixOf (l.dropWhile (isD 10)) = true → c ∈ (l.dropWhile (isD 10)).take p.length → c ∈ p := by
              intro p hp hm
              obtain ⟨t, ht⟩ := List.isPrefixOf_iff_prefix.1 hp
              rw [← ht] at hm
              simpa using hm
            unfold unitF at h'
            have fin : ∀ p : List UInt8, (∀ x ∈ p, x.toNat < 128) → p.isPrefixOf (l.dropWhile (isD 10)) = true → c ∈ (l.dropWhile (isD 10)).take p.length → False := fun p hp h1 h2 => by
              have := hp c (key p h1 h2)
              omega
            split at h'
            · exact fin [109, 115] (by simp) (by assumption) h'
            · split at h'
              · exact fin [100] (by simp) (by assumption) h'
              · split at h'
                · exact fin [104] (by simp) (by assumption) h'
                · split at h'
                  · exact fin [109] (by simp) (by assumption) h'
                  · split at h'
                    · exact fin [115] (by simp) (by assumption) h'
                    · simp at h'
          · exact h'
theorem timeL_high {l : List UInt8} {c : UInt8} (hc : c ∈ l) (h : 128 ≤ c.toNat) : timeL l = none := by
  have key : ∀ p : List UInt8, (∀ x ∈ p, x.toNat < 128) → p.isPrefixOf l = true → c ∈ l.drop p.length := by
    intro p hp h1
    have e := pre_mem h1
    rw [e] at hc
    rcases List.mem_append.1 hc with h' | h'
    · have := hp c h'
      omega
    · exact h'
  unfold timeL
  split
  · split
    · rfl
    · exact time_high _ _ _ (key tPre (by simp [tPre]) (by assumption)) h
  · split
    · split
      · rfl
      · exact time_high _ _ _ (key timePre (by simp [timePre]) (by assumption)) h
    · rfl

/-! ### values -/
def trueL : List UInt8 := [116, 114, 117, 101]
def falseL : List UInt8 := [102, 97, 108, 115, 101]
/-- what a text in small letters says of a kind -/
def valF (k : Int) (l : List UInt8) : Option Int :=
  if k = 1 then (if l = trueL then some 1 else if l = falseL then some 0 else none)
  else if k = 5 then (timeL l).map Int.ofNat
  else match numF l with
    | some v => some (v : Int)
    | none => if k ≠ 4 ∧ [45].isPrefixOf l = true then (digF 10 (l.drop 1) 0 false).map fun v => -(v : Int) else none
theorem val_high {k : Int} {l : List UInt8} {c : UInt8} (hc : c ∈ l) (h : 128 ≤ c.toNat) : valF k l = none := by
  unfold valF
  split
  · split
    · subst l; simp only [trueL, List.mem_cons, List.not_mem_nil, or_false] at hc; rcases hc with rfl | rfl | rfl | rfl <;> simp at h
    · split
      · subst l; simp only [falseL, List.mem_cons, List.not_mem_nil, or_false] at hc; rcases hc with rfl | rfl | rfl | rfl | rfl <;> simp at h
      · rfl
  · split
    · rw [timeL_high hc h]; rfl
    · rw [num_none hc (.inl h)]
      simp only
      split
      · rename_i e
        have h1 : c ∈ l.drop 1 := by
          have e2 := pre_mem e.2
          rw [e2] at hc
          rcases List.mem_append.1 hc with h' | h'
          · simp at h'; subst h'; simp at h
          · exact h'
        rw [dig_none h1 (isD_high (by omega) h)]
        rfl
      · rfl
/-- a number that is told up to a lid: it is what it is, or both are too great -/
def capR (x : Nat) (y : Nat) : Prop := (y ≤ 4294967295 → x = y) ∧ (4294967296 ≤ y → 4294967296 ≤ x) ∧ x ≤ 9007199254740992
theorem cap_lid (v : Nat) : capR (min v lidN) v := by unfold capR lidN; omega
theorem cap_far (v : Nat) : capR (min v farN) v := by unfold capR farN; omega
end Go.Proofs.YtckjnlonijodcaaDoor.Tx
