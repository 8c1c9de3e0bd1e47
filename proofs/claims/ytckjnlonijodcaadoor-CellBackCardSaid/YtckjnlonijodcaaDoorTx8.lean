/-
  Runes and bytes: where digits end; small letters rune by rune. No conditions: plain lemmas.
-/
import Derived.Test.YtckjnlonijodcaaDoorTx6
import Derived.Lib.MapLaws
import Derived.Lib.Case
import Derived.Shelf.Strings.CaseAny
import Derived.Shelf.GgClosure.StringsIndexFunc
namespace Go.Proofs.YtckjnlonijodcaaDoor.Tx
open Go.RowKit Go.Proofs.YtckjnlonijodcaaDoor.W Go.Proofs.YtckjnlonijodcaaDoor.Num Go.Proofs.YtckjnlonijodcaaDoor.Cell

/-- what ends digits -/
def ndB (r : Nat) : Bool := decide (r ≠ 95) && (decide (r < 48) || decide (57 < r))
theorem decode_high (l : List UInt8) (c : UInt8) (h : l[0]? = some c) (hc : 128 ≤ c.toNat) : 128 ≤ (Go.Lib.decodeL l).1 := by
  rw [Go.Lib.decodeL_N]
  have h0 : l.getD 0 0 = c := by rw [List.getD_eq_getElem?_getD, h]; rfl
  rw [h0]
  rcases Go.Lib.decodeN_shape l.length c.toNat (l.getD 1 0).toNat (l.getD 2 0).toNat (l.getD 3 0).toNat with ⟨c', e⟩ | ⟨c1, c2, c3, cv, e⟩ | ⟨c1, c2, c3, c4, cv, cs, e⟩ | ⟨c1, c2, c3, c4, c5, cv, cw, e⟩ | e
  all_goals (rw [e]; dsimp only; omega)
theorem nd_of (c : UInt8) : ndB c.toNat = !isD 10 c := by
  rw [isD_ten]
  unfold ndB
  rw [Bool.eq_iff_iff]
  simp only [Bool.and_eq_true, Bool.or_eq_true, decide_eq_true_eq, Bool.not_eq_true', Bool.or_eq_false_iff, Bool.and_eq_false_iff, decide_eq_false_iff_not]
  omega
theorem idx_from (s : ByteArray) : ∀ (f pos : Nat), s.size ≤ pos + f → Go.Lib.idxFuncFrom ndB true s f pos = if pos + (tw 10 s pos).length < s.size then ((pos + (tw 10 s pos).length : Nat) : Int) else -1
  | 0, pos, hf => by
    rw [tw_end (by omega)]
    simp [Go.Lib.idxFuncFrom]
    omega
  | f + 1, pos, hf => by
    unfold Go.Lib.idxFuncFrom
    by_cases hp : pos < s.size
    · rw [if_pos hp]
      obtain ⟨c, hc⟩ : ∃ c, s[pos] = c := ⟨_, rfl⟩
      have hd := drop_byte s pos hp
      rw [hc] at hd
      have hdec : Utf8.decode s pos = Go.Lib.decodeL (s.data.toList.drop pos) := (Go.Lib.decodeL_drop s pos).symm
      rw [hdec]
      by_cases h8 : c.toNat < 128
      · have hda := Go.Lib.decodeL_ascii c (s.data.toList.drop (pos + 1)) h8
        rw [← hd] at hda
        rw [hda]
        simp only
        by_cases hi : isD 10 c = true
        · rw [nd_of, hi]
          simp only [Bool.not_true, Bool.false_eq_true, if_false]
          have ht : tw 10 s pos = c :: tw 10 s (pos + 1) := by
            unfold tw
            rw [hd, List.takeWhile_cons, hi]
            rfl
          rw [idx_from s f (pos + 1) (by omega), ht, List.length_cons]
          congr 1
          · simp only [eq_iff_iff]; omega
          · congr 1; omega
        · rw [nd_of, Bool.eq_false_iff.2 hi, tw_stop hp hc (Bool.eq_false_iff.2 hi)]
          simp [hp]
      · have hh := decode_high (s.data.toList.drop pos) c (by rw [hd]; rfl) (by omega)
        have hn : ndB (Go.Lib.decodeL (s.data.toList.drop pos)).1 = true := by
          unfold ndB
          simp only [Bool.and_eq_true, Bool.or_eq_true, decide_eq_true_eq]
          omega
        rw [hn, tw_stop hp hc (isD_high (by omega) (by omega))]
        simp [hp]
    · rw [if_neg hp, tw_end hp]
      simp
      omega
theorem idx_all (s : ByteArray) : Go.Lib.idxFunc ndB true s = if (tw 10 s 0).length < s.size then ((tw 10 s 0).length : Int) else -1 := by
  unfold Go.Lib.idxFunc
  rw [idx_from s s.size 0 (by omega)]
  simp

/-! ### small letters -/
def lowR (x : Int) : Int := if 65 ≤ x ∧ x ≤ 90 then x + 32 else x
theorem low_byte : ∀ i : Fin 128, Go.Lib.encodeRune (lowR (i.val : Int)) = [Go.Lib.lowerB (UInt8.ofNat i.val)] := by decide
theorem low_rune (c : UInt8) (h : c.toNat < 128) : Go.Lib.encodeRune (lowR (c.toNat : Int)) = [Go.Lib.lowerB c] := by
  have := low_byte ⟨c.toNat, h⟩
  simpa using this
theorem lowR_pos (x : Nat) : 0 ≤ lowR (x : Int) ∧ lowR (x : Int) ≤ x + 32 := by
  unfold lowR
  split <;> omega
theorem encode_high {r : Int} (h : 128 ≤ r) : ∃ c ∈ Go.Lib.encodeRune r, 128 ≤ c.toNat := by
  have key : ∃ x ∈ Go.Lib.encodeRuneZ r, 128 ≤ x ∧ x < 256 := by
    rcases (show (128 ≤ r ∧ r ≤ 2047) ∨ ((2048 ≤ r ∧ r < 55296) ∨ (57343 < r ∧ r ≤ 65535)) ∨ (65536 ≤ r ∧ r ≤ 1114111) ∨ (r < 0 ∨ (55296 ≤ r ∧ r ≤ 57343) ∨ 1114111 < r) by omega) with h1 | h1 | h1 | h1
    · rw [Go.Lib.encodeRuneZ_two h1.1 h1.2]; exact ⟨_, List.mem_cons_self, by omega, by omega⟩
    · rw [Go.Lib.encodeRuneZ_three h1]; exact ⟨_, List.mem_cons_self, by omega, by omega⟩
    · rw [Go.Lib.encodeRuneZ_four h1.1 h1.2]; exact ⟨_, List.mem_cons_self, by omega, by omega⟩
    · rw [Go.Lib.encodeRuneZ_bad h1]; exact ⟨_, List.mem_cons_self, by omega, by omega⟩
  obtain ⟨x, hx, h1, h2⟩ := key
  unfold Go.Lib.encodeRune
  refine ⟨x.toNat.toUInt8, List.mem_map.2 ⟨x, hx, rfl⟩, ?_⟩
  simp
  omega
theorem low_mapD : ∀ (n : Nat) (l : List UInt8), l.length ≤ n → ((∀ c ∈ l, c.toNat < 128) → Go.Lib.mapD lowR l = l.map Go.Lib.lowerB) ∧ ((∃ c ∈ l, 128 ≤ c.toNat) → ∃ c ∈ Go.Lib.mapD lowR l, 128 ≤ c.toNat)
  | _, [], _ => ⟨fun _ => rfl, fun ⟨c, hc, _⟩ => by cases hc⟩
  | 0, c :: l, h => by simp at h
  | n + 1, c :: l, h => by
    have hne : c :: l ≠ [] := by simp
    have hln : l.length ≤ n := by simpa using h
    obtain ⟨i1, i2⟩ := low_mapD n l hln
    by_cases h8 : c.toNat < 128
    · have hs : Go.Lib.mapD lowR (c :: l) = Go.Lib.lowerB c :: Go.Lib.mapD lowR l := by
        rw [Go.Lib.mapD_step lowR _ hne, Go.Lib.decodeL_ascii c l h8]
        simp only
        rw [if_pos (lowR_pos _).1, low_rune c h8]
        rfl
      rw [hs]
      refine ⟨fun ha => ?_, fun ⟨d, hd, h1⟩ => ?_⟩
      · rw [i1 fun d hd => ha d (List.mem_cons_of_mem _ hd)]
        rfl
      · rcases List.mem_cons.1 hd with rfl | hd
        · omega
        · obtain ⟨e, he, h2⟩ := i2 ⟨d, hd, h1⟩
          exact ⟨e, List.mem_cons_of_mem _ he, h2⟩
    · refine ⟨fun ha => absurd (ha c List.mem_cons_self) h8, fun _ => ?_⟩
      have hh := decode_high (c :: l) c rfl (by omega)
      rw [Go.Lib.mapD_step lowR _ hne]
      have hl : lowR ((Go.Lib.decodeL (c :: l)).1 : Int) = ((Go.Lib.decodeL (c :: l)).1 : Int) := by unfold lowR; rw [if_neg (by omega)]
      rw [hl, if_pos (by omega)]
      obtain ⟨e, he, h2⟩ := encode_high (r := ((Go.Lib.decodeL (c :: l)).1 : Int)) (by omega)
      exact ⟨e, List.mem_append_left _ he, h2⟩
/-- what is read of a text does not hang on how what is no ASCII is written -/
theorem val_low (k : Int) (l : List UInt8) : valF k (Go.Lib.mapD lowR l) = valF k (l.map Go.Lib.lowerB) := by
  obtain ⟨i1, i2⟩ := low_mapD l.length l (Nat.le_refl _)
  by_cases h : ∃ c ∈ l, 128 ≤ c.toNat
  · obtain ⟨d, hd, h1⟩ := i2 h
    obtain ⟨c, hc, h2⟩ := h
    rw [val_high hd h1]
    symm
    refine val_high (c := Go.Lib.lowerB c) (List.mem_map.2 ⟨c, hc, rfl⟩) ?_
    have : Go.Lib.lowerB c = c := Go.Lib.lowerB_of_not c (by rw [Go.Lib.isUpperB_int]; simp only [Bool.and_eq_false_iff, decide_eq_false_iff_not]; omega)
    rw [this]
    exact h2
  · rw [i1 fun c hc => Nat.lt_of_not_le fun h2 => h ⟨c, hc, h2⟩]
end Go.Proofs.YtckjnlonijodcaaDoor.Tx
