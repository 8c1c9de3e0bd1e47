/-
  What a step of a guard keeps, plainly; the steps' data. No conditions: plain lemmas.
-/
import Derived.Test.YtdofkakbfolpkaaSh3
import Derived.Test.YtdofkakbfolpkaaRecs
namespace Go.Proofs.Ytdofkakbfolpkaa.Sf
open Go.RowKit Go.Proofs.Ytdofkakbfolpkaa.W Go.Proofs.Ytdofkakbfolpkaa.Ints Go.Proofs.Ytdofkakbfolpkaa.Pop Go.Proofs.Ytdofkakbfolpkaa.Keep

def clip (d x : Int) : Int := if d + 1 ≤ x then d + 1 else x
def longAt (told : List Int) (p : Int × List Int) (x : Int) : Int := if holdsB told p = true then x + 1 else 0
def longF (told : List Int) (ps : List (Int × List Int)) (lg : List Int) : List Int := List.zipWith (longAt told) ps lg
theorem long_len {told : List Int} {ps : List (Int × List Int)} {lg : List Int} (h : lg.length = ps.length) : (longF told ps lg).length = ps.length := by simp [longF, h]
theorem clip_at (d : Int) (told : List Int) (p : Int × List Int) (x : Int) (hd : 0 ≤ d) : heldAt d told p (clip d x) = clip d (longAt told p x) := by
  unfold heldAt longAt clip
  by_cases h : holdsB told p = true
  · rw [if_pos h, if_pos h]
    repeat' split
    all_goals omega
  · rw [if_neg h, if_neg h, if_neg (by omega)]
theorem clip_held (d : Int) (told : List Int) (hd : 0 ≤ d) : ∀ (ps : List (Int × List Int)) (lg : List Int), heldF d told ps (lg.map (clip d)) = (longF told ps lg).map (clip d)
  | [], lg => by simp [heldF, longF]
  | p :: ps, [] => by simp [heldF, longF]
  | p :: ps, x :: lg => by
    have ih := clip_held d told hd ps lg
    unfold heldF longF at ih ⊢
    simp only [List.map_cons, List.zipWith_cons_cons, clip_at d told p x hd, ih]
theorem long_at {told : List Int} {ps : List (Int × List Int)} {lg : List Int} {k : Nat} {p : Int × List Int} (hl : lg.length = ps.length) (hp : ps[k]? = some p) : (longF told ps lg)[k]? = some (longAt told p (lg.getD k 0)) := by
  have hk := (List.getElem?_eq_some_iff.1 hp).1
  unfold longF
  rw [List.getElem?_zipWith, hp, List.getElem?_eq_getElem (by omega : k < lg.length)]
  simp [List.getD_eq_getElem?_getD, List.getElem?_eq_getElem (by omega : k < lg.length)]
theorem long_bound {told : List Int} {ps : List (Int × List Int)} {lg : List Int} {n : Int} (h : ∀ x ∈ lg, 0 ≤ x ∧ x ≤ n) (hn : 0 ≤ n) : ∀ x ∈ longF told ps lg, 0 ≤ x ∧ x ≤ n + 1 := by
  intro x hx
  obtain ⟨k, hk, rfl⟩ := List.mem_iff_getElem.1 hx
  have hk' := hk
  simp only [longF, List.length_zipWith] at hk'
  simp only [longF, List.getElem_zipWith]
  have h1 := h lg[k] (List.getElem_mem _)
  unfold longAt
  split <;> omega
/-- the row of counts in the middle of a step -/
def midTo (told : List Int) (ps : List (Int × List Int)) (lg : List Int) (k : Nat) : List Int := (longF told ps lg).take k ++ lg.drop k
theorem mid_len {told : List Int} {ps : List (Int × List Int)} {lg : List Int} {k : Nat} (hl : lg.length = ps.length) (hk : k ≤ ps.length) : (midTo told ps lg k).length = ps.length := by
  simp [midTo, long_len hl]
  omega
theorem mid_get {told : List Int} {ps : List (Int × List Int)} {lg : List Int} {k : Nat} (hl : lg.length = ps.length) (hk : k < ps.length) : (midTo told ps lg k)[k]? = some (lg.getD k 0) := by
  unfold midTo
  have h1 : ((longF told ps lg).take k).length = k := by rw [List.length_take, long_len hl]; omega
  rw [List.getElem?_append_right (by omega), h1, Nat.sub_self, List.getElem?_drop, Nat.add_zero, List.getElem?_eq_getElem (by omega)]
  simp [List.getD_eq_getElem?_getD, List.getElem?_eq_getElem (by omega : k < lg.length)]
theorem mid_next {told : List Int} {ps : List (Int × List Int)} {lg : List Int} {k : Nat} {p : Int × List Int} (hl : lg.length = ps.length) (hp : ps[k]? = some p) :
    midTo told ps lg (k + 1) = (midTo told ps lg k).set k (longAt told p (lg.getD k 0)) := by
  have hk := (List.getElem?_eq_some_iff.1 hp).1
  have h1 : ((longF told ps lg).take k).length = k := by rw [List.length_take, long_len hl]; omega
  unfold midTo
  rw [held_take (long_at hl hp), List.append_assoc, List.set_append_right _ _ (by omega), h1, Nat.sub_self]
  congr 1
  rw [List.drop_eq_getElem_cons (by omega : k < lg.length)]
  rfl
theorem mid_zero (told : List Int) (ps : List (Int × List Int)) (lg : List Int) : midTo told ps lg 0 = lg := by simp [midTo]
theorem mid_all {told : List Int} {ps : List (Int × List Int)} {lg : List Int} (hl : lg.length = ps.length) : midTo told ps lg ps.length = longF told ps lg := by
  unfold midTo
  rw [List.take_of_length_le (by rw [long_len hl]; exact Nat.le_refl _), List.drop_eq_nil_of_le (by omega), List.append_nil]

/-! ### a trip that can stand, behind a step -/
theorem idx_lt {v : Int} {xs : List Int} : -1 ≤ idxOf v xs ∧ idxOf v xs < xs.length := by
  unfold idxOf
  cases h : xs.findIdx? (fun x => v == x) with
  | none => simp; omega
  | some k =>
    rw [List.findIdx?_eq_some_iff_getElem] at h
    obtain ⟨hk, _⟩ := h
    simp
    omega
theorem clip_in {d x : Int} (h : 0 ≤ x) (hd : 0 ≤ d) : outB 0 (d + 2) (clip d x) = false := by
  unfold clip outB
  split <;> simp <;> omega
theorem stands_clip {d : Int} {n : Nat} {down key : Bool} {first : Int} {lg : List Int} (hd : 0 ≤ d) (hl : lg.length = n) (h : ∀ x ∈ lg, 0 ≤ x) (hf : (down = false ∧ first = -1) ∨ (down = true ∧ 0 ≤ first ∧ first < n)) : standsB d n ⟨down, first, lg.map (clip d), key⟩ = true := by
  have ha : (lg.map (clip d)).any (outB 0 (d + 2)) = false := by
    rw [List.any_eq_false]
    intro x hx
    obtain ⟨y, hy, rfl⟩ := List.mem_map.1 hx
    simp [clip_in (h y hy) hd]
  unfold standsB
  rcases hf with ⟨rfl, rfl⟩ | ⟨rfl, h1, h2⟩
  · simp [hl, ha]
    omega
  · simp [hl, ha, h1, h2]
    omega
theorem step_fine {d : Int} {ps : List (Int × List Int)} {T : TR} {told : List Int} {key : Bool} (hg : guardF 6 d ps = (0, 0)) (hs : standsB d ps.length T = true) (hl : told.length = 6) (ht : toldB told = false) :
    stepF 6 d ps T told key = (nextF d ps T told key, 0) := by
  unfold stepF
  rw [hg, if_neg (by decide), if_neg (by rw [hs]; decide), if_neg (by rw [hl]; decide), if_neg (by rw [ht]; decide)]

/-! ### the steps' data -/
structure SD where
  A : Option Addr
  n : Nat
  c : Nat
  key : Bool
  xs : List Int
def SD.cs (s : SD) : List Value := [.slice s.A s.n s.c, .bool s.key]
theorem SD.len (s : SD) : s.cs.length = 2 := rfl
def SRd (w : World) (Q : Option Addr) (m : Nat) (ss : List SD) : Prop := Rd w 2 Q m (ss.flatMap SD.cs) ∧ ∀ s ∈ ss, Rd w 1 s.A s.n (ints s.xs) ∧ s.n * 8 ≤ 140737488351232 ∧ ∀ x ∈ s.xs, -9223372036854775808 ≤ x ∧ x ≤ 9223372036854775807
theorem SRd.below {w w' : World} {Q : Option Addr} {m : Nat} {ss : List SD} (h : SRd w Q m ss) (hb : Below w.heap.size w w') : SRd w' Q m ss :=
  ⟨h.1.below hb, fun v hv => ⟨(h.2 v hv).1.below hb, (h.2 v hv).2⟩⟩
theorem SRd.len {w : World} {Q : Option Addr} {m : Nat} {ss : List SD} (h : SRd w Q m ss) : ss.length = m := Rd.rec_len SD.len (by omega) h.1
theorem sd_at {w : World} {Q : Option Addr} {m : Nat} {ss : List SD} (h : SRd w Q m ss) {k : Nat} (hk : k < m) :
    ∃ b o s, Q = some ⟨b, o, none⟩ ∧ ss[k]? = some s ∧ b < w.heap.size ∧ w.cell? ⟨b, o + k * 2, none⟩ = some (.slice s.A s.n s.c) ∧ w.cell? ⟨b, o + k * 2 + 1, none⟩ = some (.bool s.key) ∧
      Rd w 1 s.A s.n (ints s.xs) ∧ s.n * 8 ≤ 140737488351232 ∧ ∀ x ∈ s.xs, -9223372036854775808 ≤ x ∧ x ≤ 9223372036854775807 := by
  have hl := h.len
  obtain ⟨b, o, e, hc⟩ := Rd.rec SD.len h.1 (by omega)
  have ht : ss[k]? = some ss[k] := List.getElem?_eq_getElem (by omega)
  have c := hc k _ ht
  have c0 := c 0 _ rfl
  refine ⟨b, o, ss[k], e, ht, lt_of_cell c0, c0, ?_, h.2 _ (List.getElem_mem _)⟩
  rw [Nat.add_assoc]; exact c 1 _ rfl
theorem told_in {H : Type} {enc : TypeId × Value → H} {w : World} {cs : List Value} (h : O.Op enc Try.prog w 47 cs) : ∃ s : SD, cs = s.cs ∧ (Rd w 1 s.A s.n (ints s.xs) ∧ s.n * 8 ≤ 140737488351232 ∧ ∀ x ∈ s.xs, -9223372036854775808 ≤ x ∧ x ≤ 9223372036854775807) := by
  obtain ⟨hl, hf⟩ := h.struct Try.underlying47
  match cs, hl.trans (by kernel_rfl : Try.prog.cellsOf 47 = 2) with
  | [c0, c1], _ =>
    obtain ⟨A, n, c, xs, e0, hnc, hc, hr, hx, _⟩ := (hf 0 _ rfl).ints Try.underlying26 Try.underlying3 (by kernel_rfl) (by kernel_rfl)
    obtain ⟨key, e1⟩ := (hf 1 _ rfl).bool Try.underlying4
    have k4 : Try.prog.cellsOf 4 = 1 := by kernel_rfl
    have k26 : Try.prog.cellsOf 26 = 1 := by kernel_rfl
    simp [k4, k26] at e0 e1
    subst e0 e1
    exact ⟨⟨A, n, c, key, xs⟩, rfl, hr, (by simp only; omega), hx⟩
theorem ballot_in {H : Type} {enc : TypeId × Value → H} {w : World} {cs : List Value} (h : O.Op enc Try.prog w 63 cs) : ∃ v : VD, cs = v.cs ∧ ((Rd w 1 v.A v.n (ints v.of) ∧ v.n * 8 ≤ 140737488351232 ∧ v.n ≤ v.c) ∧ (-9223372036854775808 ≤ v.need ∧ v.need ≤ 9223372036854775807) ∧ ∀ x ∈ v.of, -9223372036854775808 ≤ x ∧ x ≤ 9223372036854775807) := by
  obtain ⟨hl, hf⟩ := h.struct Try.underlying63
  match cs, hl.trans (by kernel_rfl : Try.prog.cellsOf 63 = 2) with
  | [c0, c1], _ =>
    obtain ⟨x0, e0, hx1, hx2⟩ := (hf 0 _ rfl).i64 Try.underlying3
    obtain ⟨A, n, c, xs, e1, hnc, hc, hr, hx, _⟩ := (hf 1 _ rfl).ints Try.underlying26 Try.underlying3 (by kernel_rfl) (by kernel_rfl)
    have k3 : Try.prog.cellsOf 3 = 1 := by kernel_rfl
    have k26 : Try.prog.cellsOf 26 = 1 := by kernel_rfl
    simp [k3, k26] at e0 e1
    subst e0 e1
    exact ⟨⟨x0, A, n, c, xs⟩, rfl, ⟨hr, (by simp only; omega), hnc⟩, ⟨hx1, hx2⟩, hx⟩
theorem ballots_in {H : Type} {enc : TypeId × Value → H} {w : World} {A : Option Addr} {n c : Nat} (h : O.Op enc Try.prog w 42 [.slice A n c]) :
    ∃ bs : List VD, n ≤ maxLen ∧ GRd w A n bs ∧ ∀ b ∈ bs, (-9223372036854775808 ≤ b.need ∧ b.need ≤ 9223372036854775807) ∧ ∀ x ∈ b.of, -9223372036854775808 ≤ x ∧ x ≤ 9223372036854775807 := by
  obtain ⟨A', n', c', xs, e, h1, h2, h3, h4, _⟩ := h.recs (bt := 32) (sz := 2) VD.len (by omega) ⟨0, none, 0, 0, []⟩ Try.underlying42 (by kernel_rfl) (by kernel_rfl) (fun cs h => ballot_in h)
  simp only [List.cons.injEq, Value.slice.injEq, and_true] at e
  obtain ⟨rfl, rfl, rfl⟩ := e
  exact ⟨xs, by unfold maxLen; omega, ⟨h3, fun v hv => (h4 v hv).1⟩, fun v hv => (h4 v hv).2⟩
theorem steps_in {H : Type} {enc : TypeId × Value → H} {w : World} {A : Option Addr} {n c : Nat} (h : O.Op enc Try.prog w 43 [.slice A n c]) : ∃ ss : List SD, n ≤ maxLen ∧ SRd w A n ss := by
  obtain ⟨A', n', c', xs, e, h1, h2, h3, h4, _⟩ := h.recs (bt := 32) (sz := 2) SD.len (by omega) ⟨none, 0, 0, false, []⟩ Try.underlying43 (by kernel_rfl) (by kernel_rfl) (fun cs h => told_in h)
  simp only [List.cons.injEq, Value.slice.injEq, and_true] at e
  obtain ⟨rfl, rfl, rfl⟩ := e
  exact ⟨xs, by unfold maxLen; omega, h3, h4⟩
end Go.Proofs.Ytdofkakbfolpkaa.Sf
