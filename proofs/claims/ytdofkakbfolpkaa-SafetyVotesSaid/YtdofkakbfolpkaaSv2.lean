/-
  Votes turned round in place, steps of a guard that is right, as contracts. No conditions: plain lemmas and contracts.
-/
import Derived.Test.YtdofkakbfolpkaaSv1
import Derived.Test.YtdofkakbfolpkaaSh3
import Derived.Test.YtdofkakbfolpkaaSg5
namespace Go.Proofs.Ytdofkakbfolpkaa.Sf
open Go.RowKit Go.Proofs.Ytdofkakbfolpkaa.W Go.Proofs.Ytdofkakbfolpkaa.Ints Go.Proofs.Ytdofkakbfolpkaa.Pop Go.Proofs.Ytdofkakbfolpkaa.Keep

theorem blk4 {w : World} {g : Nat} {t : TypeId} {a b c d : Value} (h : Blk w g t #[a, b, c, d]) (a' b' c' d' : Value) : Blk ((((w.setCell ⟨g, 0, none⟩ a').setCell ⟨g, 1, none⟩ b').setCell ⟨g, 2, none⟩ c').setCell ⟨g, 3, none⟩ d') g t #[a', b', c', d'] := by
  have k := (((h.put 0 a').put 1 b').put 2 c').put 3 d'
  simpa only [List.setIfInBounds_toArray, List.set_cons_succ, List.set_cons_zero] using k
theorem grow_of_below {w w' : World} (hb : Below w.heap.size w w') (r : Option Nat) : w.grownBy w' r := ⟨hb.os, hb.tape, hb.output, hb.size, fun k hk _ => hb.block k hk⟩
theorem grow_drewN {a w : World} {r : Option Nat} (h : a.grownBy w r) (k : Nat) : a.grownBy (w.drewN k) r := ⟨h.os, h.tape, h.output, h.size, h.block⟩

/-! ### a list turned round by exchanges -/
def revTo (xs : List Int) (k : Nat) : List Int := (List.range xs.length).map fun j => if j < k ∨ xs.length ≤ j + k then xs.getD (xs.length - 1 - j) 0 else xs.getD j 0
theorem revTo_len (xs : List Int) (k : Nat) : (revTo xs k).length = xs.length := by simp [revTo]
theorem revTo_get {xs : List Int} {k j : Nat} (h : j < (revTo xs k).length) : (revTo xs k)[j] = if j < k ∨ xs.length ≤ j + k then xs.getD (xs.length - 1 - j) 0 else xs.getD j 0 := by simp [revTo]
theorem revTo_zero (xs : List Int) : revTo xs 0 = xs := by
  refine List.ext_getElem (revTo_len xs 0) fun j h1 h2 => ?_
  rw [revTo_get, if_neg (by omega)]
  simp [List.getD_eq_getElem?_getD, List.getElem?_eq_getElem h2]
theorem revTo_low {xs : List Int} {k m : Nat} (h : k + m + 1 = xs.length) (hk : k < m) : (revTo xs k)[k]? = some (xs.getD k 0) := by
  have hl := revTo_len xs k
  rw [List.getElem?_eq_getElem (by omega), revTo_get, if_neg (by omega)]
theorem revTo_high {xs : List Int} {k m : Nat} (h : k + m + 1 = xs.length) (hk : k < m) : (revTo xs k)[m]? = some (xs.getD m 0) := by
  have hl := revTo_len xs k
  rw [List.getElem?_eq_getElem (by omega), revTo_get, if_neg (by omega)]
theorem revTo_next {xs : List Int} {k m : Nat} (h : k + m + 1 = xs.length) (hk : k < m) : ((revTo xs k).set k (xs.getD m 0)).set m (xs.getD k 0) = revTo xs (k + 1) := by
  refine List.ext_getElem (by simp [revTo_len]) fun j h1 h2 => ?_
  rw [List.getElem_set, List.getElem_set, revTo_get, revTo_get]
  have h3 : j < xs.length := by rw [revTo_len] at h2; exact h2
  by_cases e1 : m = j
  · subst e1
    rw [if_pos rfl, if_pos (by omega), show xs.length - 1 - m = k from by omega]
  · rw [if_neg e1]
    by_cases e2 : k = j
    · subst e2
      rw [if_pos rfl, if_pos (by omega), show xs.length - 1 - k = m from by omega]
    · rw [if_neg e2]
      by_cases e3 : j < k ∨ xs.length ≤ j + k
      · rw [if_pos e3, if_pos (by omega)]
      · rw [if_neg e3, if_neg (by omega)]
theorem revTo_end {xs : List Int} {k m : Nat} (h : k + m + 1 = xs.length) (hk : ¬ k < m) : revTo xs k = xs.reverse := by
  refine List.ext_getElem (by simp [revTo_len]) fun j h1 h2 => ?_
  have h3 : j < xs.length := by rw [revTo_len] at h1; exact h1
  rw [revTo_get, List.getElem_reverse]
  have e : ∀ i : Nat, (hi : i < xs.length) → xs.getD i 0 = xs[i] := fun i hi => by simp [List.getD_eq_getElem?_getD, List.getElem?_eq_getElem hi]
  by_cases e3 : j < k ∨ xs.length ≤ j + k
  · rw [if_pos e3, e _ (by omega)]
  · rw [if_neg e3, e _ h3]
    congr 1
    omega

/-! ### votes, the sensors of the first i of them turned round -/
def rvV (u : VD) : VD := ⟨u.need, u.A, u.n, u.c, u.of.reverse⟩
def midR (us : List VD) (i : Nat) : List VD := (us.take i).map rvV ++ us.drop i
theorem midR_zero (us : List VD) : midR us 0 = us := by simp [midR]
theorem midR_all (us : List VD) : midR us us.length = us.map rvV := by simp [midR]
theorem votes_rv (us : List VD) : votesV (us.map rvV) = votesV us := by
  induction us with
  | nil => rfl
  | cons u us ih => simp only [List.map_cons, votesV, List.flatMap_cons] at ih ⊢; rw [ih]; rfl
theorem votes_midR (us : List VD) (i : Nat) : votesV (midR us i) = votesV us := by
  have h := votes_rv (us.take i)
  simp only [votesV] at h
  simp only [midR, votesV, List.flatMap_append]
  rw [h, ← List.flatMap_append, List.take_append_drop]
theorem pl_rv (us : List VD) : (us.map rvV).map VD.pl = (us.map VD.pl).map revP := by
  rw [List.map_map, List.map_map]
  rfl
theorem midR_len (us : List VD) (i : Nat) : (midR us i).length = us.length := by simp [midR]; omega
theorem midR_get {us : List VD} {i j : Nat} (hj : j < us.length) : (midR us i)[j]? = some (if j < i then rvV us[j] else us[j]) := by
  unfold midR
  by_cases h : j < i
  · rw [List.getElem?_append_left (by simp; omega), if_pos h]
    simp [List.getElem?_eq_getElem hj, h]
  · rw [List.getElem?_append_right (by simp; omega), if_neg h, List.getElem?_drop]
    have : i + (j - ((us.take i).map rvV).length) = j := by simp; omega
    rw [this, List.getElem?_eq_getElem hj]
theorem midR_at {us : List VD} {i : Nat} {v : VD} (h : us[i]? = some v) : (midR us i)[i]? = some v := by
  have hi := (List.getElem?_eq_some_iff.1 h).1
  rw [midR_get hi, if_neg (by omega), ← h, List.getElem?_eq_getElem hi]
theorem FrO.fresh {base gx : Nat} {B : Option Addr} {us : List VD} {w : World} (h : FrO base gx B us w) : FrO base w.heap.size B us w := fun u hu =>
  ⟨(h u hu).1, (h u hu).2.1, fun a ha => ⟨((h u hu).2.2 a ha).1, ((h u hu).2.2 a ha).2.1, Nat.ne_of_lt ((h u hu).2.2 a ha).2.1, ((h u hu).2.2 a ha).2.2.2⟩⟩
theorem apart_comm {u v : VD} (h : u.apart v) : v.apart u := fun a b ha hb e => h b a hb ha e.symm
theorem apart_at {us : List VD} (hp : us.Pairwise VD.apart) {i j : Nat} (hi : i < us.length) (hj : j < us.length) (hne : i ≠ j) : (us[i]).apart us[j] := by
  rw [List.pairwise_iff_getElem] at hp
  by_cases h : i < j
  · exact hp i j hi hj h
  · exact apart_comm (hp j i hj hi (by omega))
theorem rv_apart {u v : VD} (h : u.apart v) (i j : Prop) [Decidable i] [Decidable j] : (if i then rvV u else u).apart (if j then rvV v else v) := by
  split <;> split <;> exact h
theorem FrO.rev {base gx i : Nat} {B : Option Addr} {us : List VD} {w w' : World} {v : VD} (h : FrO base gx B (midR us i) w) (hp : us.Pairwise VD.apart) (hv : us[i]? = some v)
    (hg : w.grownBy w' (Value.slice v.A v.n v.c).ownBlock) (ho : w'.ownsRow base 3 1 (.slice v.A v.n v.c) v.n (ints v.of.reverse)) : FrO base gx B (midR us (i + 1)) w' := by
  have hi := (List.getElem?_eq_some_iff.1 hv).1
  have hvi : us[i] = v := by rw [List.getElem?_eq_getElem hi] at hv; exact Option.some.inj hv
  intro u hu
  obtain ⟨j, hj, rfl⟩ := List.mem_iff_getElem.1 hu
  have hjl : j < us.length := by rw [midR_len] at hj; exact hj
  have e1 : (midR us (i + 1))[j] = if j < i + 1 then rvV us[j] else us[j] := by
    have := midR_get (i := i + 1) hjl
    rw [List.getElem?_eq_getElem hj] at this
    exact Option.some.inj this
  have e0 := midR_get (i := i) hjl
  have hm : (if j < i then rvV us[j] else us[j]) ∈ midR us i := List.mem_of_getElem? e0
  obtain ⟨h1, h2, h4⟩ := h _ hm
  rw [e1]
  by_cases hji : j = i
  · subst hji
    rw [if_neg (by omega)] at h1 h2 h4
    rw [if_pos (by omega), hvi]
    rw [hvi] at h1 h2 h4
    exact ⟨ho, h2, fun a ha => ⟨(h4 a ha).1, Nat.lt_of_lt_of_le (h4 a ha).2.1 hg.size, (h4 a ha).2.2⟩⟩
  · have e2 : (if j < i + 1 then rvV us[j] else us[j]) = (if j < i then rvV us[j] else us[j]) := by
      by_cases hlt : j < i
      · rw [if_pos (by omega), if_pos hlt]
      · rw [if_neg (by omega), if_neg hlt]
    rw [e2]
    have hap := rv_apart (apart_at hp hjl hi hji) (j < i) False
    rw [if_neg (fun h => h), hvi] at hap
    refine ⟨own_grown h1 hg ?_, h2, fun a ha => ⟨(h4 a ha).1, Nat.lt_of_lt_of_le (h4 a ha).2.1 hg.size, (h4 a ha).2.2⟩⟩
    intro g hgu e
    obtain ⟨a, ha, hag⟩ := own_block hgu
    obtain ⟨b, hb, hbg⟩ := own_block e.symm
    exact hap a b ha hb (hag.trans hbg.symm)

/-! ### a step, and a start, of a guard that is right -/
def StepK (K : Nat) (T : TR) (w w' : World) (e : Ending) : Prop :=
  ∃ A c, e = .returned (.tuple #[.agg #[.bool T.down, .int .i64 T.first, .slice A K c, .bool false], .int .i64 0]) ∧ Rd w' 1 A K (ints T.held) ∧ (∀ a, A = some a → w.heap.size ≤ a.block ∧ a.block < w'.heap.size) ∧ Below w.heap.size w w'
theorem step_of_trip {K : Nat} {T : TR} {w w' : World} {e : Ending} (h : TripT w w' e (T, 0)) (hl : T.held.length = K) (hk : T.key = false) : StepK K T w w' e := by
  obtain ⟨A, c, h1, h2, h3⟩ := h
  subst hl
  obtain ⟨_, _, e1, _, _, _, hs4⟩ := own_shape h2
  injection e1 with e1a _ _
  subst e1a
  exact ⟨A, c, by rw [h1, tripV, hk], Rd.own h2, hs4, h3⟩
theorem begin_right {d : Int} {ps : List (Int × List Int)} (h : guardF 6 d ps = (0, 0)) : beginF 6 d ps = (⟨false, -1, List.replicate ps.length 0, false⟩, 0) := by
  unfold beginF
  rw [h, if_pos rfl]
def StepV (K : Nat) (down : Bool) (first : Int) (held : List Int) (w w' : World) (e : Ending) : Prop :=
  ∃ A c, e = .returned (.tuple #[.agg #[.bool down, .int .i64 first, .slice A K c, .bool false], .int .i64 0]) ∧ Rd w' 1 A K (ints held) ∧ (∀ a, A = some a → w.heap.size ≤ a.block ∧ a.block < w'.heap.size) ∧ Below w.heap.size w w'
theorem stepV {K : Nat} {down key : Bool} {first : Int} {held : List Int} {w w' : World} {e : Ending} (h : StepK K ⟨down, first, held, key⟩ w w' e) : StepV K down first held w w' e := h
theorem start_k (d : Int) (ps : List (Int × List Int)) (us : List VD) (B : Option Addr) (K c1 : Nat) (hg : guardF 6 d ps = (0, 0)) (hpl : us.map VD.pl = ps) (hK : ps.length = K) (W : World) (h : GRd W B K us) :
    Calls Try.prog 9 #[guardV 6 d B K c1] W fun e w' => StepV K false (-1) (List.replicate K 0) W w' e := by
  refine (Start_any 6 d B K c1 us W h).mono ?_
  intro e w' hT
  rw [hpl, begin_right hg, hK] at hT
  exact step_of_trip hT (by simp) rfl
theorem step_k (d : Int) (ps : List (Int × List Int)) (us : List VD) (B : Option Addr) (K c1 : Nat) (hg : guardF 6 d ps = (0, 0)) (hpl : us.map VD.pl = ps) (hK : ps.length = K)
    (W : World) (h : GRd W B K us) (down : Bool) (first : Int) (held : List Int) (A : Option Addr) (c : Nat) (hs : standsB d K ⟨down, first, held, false⟩ = true) (hr : Rd W 1 A K (ints held)) (told : List Int) (Z : Option Addr) (z : Nat) (hz : Rd W 1 Z 6 (ints told)) (ht : toldB told = false) :
    Calls Try.prog 16 #[guardV 6 d B K c1, .agg #[.bool down, .int .i64 first, .slice A K c, .bool false], .slice Z 6 z, .bool false] W fun e w' => StepK K (nextF d ps ⟨down, first, held, false⟩ told false) W w' e := by
  have hl : held.length = K := (stands_parts hs).1
  have hK16 : K ≤ 16 := by have := guard_len (m := 6) (d := d) (ps := ps) (by rw [hg]); omega
  have h1 := Step_any 6 d B K c1 us ⟨down, first, held, false⟩ A c told Z 6 z false W h (by simp only [hl]; exact hr) (by simp only [hl]; omega) hz (by omega)
  simp only [hl] at h1
  refine h1.mono ?_
  intro e w' hT
  have htl : told.length = 6 := rd_len hz
  rw [hpl, step_fine hg (by rw [hK]; exact hs) htl ht] at hT
  exact step_of_trip hT (by rw [held_next, held_len (by simp only [hl, hK]), hK]) key_next
theorem step_kr (d : Int) (ps : List (Int × List Int)) (us : List VD) (B : Option Addr) (K c1 : Nat) (hg : guardF 6 d ps = (0, 0)) (hpl : us.map VD.pl = ps) (hK : ps.length = K)
    (W : World) (h : GRd W B K (us.map rvV)) (down : Bool) (first : Int) (held : List Int) (A : Option Addr) (c : Nat) (hs : standsB d K ⟨down, first, held, false⟩ = true) (hr : Rd W 1 A K (ints held)) (told : List Int) (Z : Option Addr) (z : Nat) (hz : Rd W 1 Z 6 (ints told)) (ht : toldB told = false) :
    Calls Try.prog 16 #[guardV 6 d B K c1, .agg #[.bool down, .int .i64 first, .slice A K c, .bool false], .slice Z 6 z, .bool false] W fun e w' => StepK K (nextF d ps ⟨down, first, held, false⟩ told false) W w' e := by
  rw [← next_rev]
  exact step_k d (ps.map revP) (us.map rvV) B K c1 (guard_rev hg) (by rw [pl_rv, hpl]) (by rw [List.length_map, hK]) W h down first held A c hs hr told Z z hz ht

/-! ### three boxes, each with a row of its own -/
def Bx (x3 x4 x5 x K : Nat) (td : Bool) (tf : Int) (th : List Int) (A : Option Addr) (c : Nat) (w : World) : Prop :=
  Blk w x 28 #[.bool td, .int .i64 tf, .slice A K c, .bool false] ∧ Rd w 1 A K (ints th) ∧ ∀ a, A = some a → a.block < w.heap.size ∧ a.block ≠ x3 ∧ a.block ≠ x4 ∧ a.block ≠ x5
section
variable {x3 x4 x5 x y K c : Nat} {td : Bool} {tf : Int} {th : List Int} {A : Option Addr} {w w' : World}
theorem Bx.below (h : Bx x3 x4 x5 x K td tf th A c w) (hb : Below w.heap.size w w') : Bx x3 x4 x5 x K td tf th A c w' :=
  ⟨h.1.below hb, h.2.1.below hb, fun a ha => ⟨Nat.lt_of_lt_of_le (h.2.2 a ha).1 hb.size, (h.2.2 a ha).2⟩⟩
theorem rd4 (h : Rd w 1 A K (ints th)) (hA : ∀ a, A = some a → a.block ≠ y) (a b c d : Value) : Rd ((((w.setCell ⟨y, 0, none⟩ a).setCell ⟨y, 1, none⟩ b).setCell ⟨y, 2, none⟩ c).setCell ⟨y, 3, none⟩ d) 1 A K (ints th) :=
  (((h.set (p := ⟨y, 0, none⟩) hA a).set (p := ⟨y, 1, none⟩) hA b).set (p := ⟨y, 2, none⟩) hA c).set (p := ⟨y, 3, none⟩) hA d
theorem below4 {B : Nat} {a : World} (h : Below B a w) (hB : B ≤ y) (p q r s : Value) : Below B a ((((w.setCell ⟨y, 0, none⟩ p).setCell ⟨y, 1, none⟩ q).setCell ⟨y, 2, none⟩ r).setCell ⟨y, 3, none⟩ s) :=
  (((h.setCell (p := ⟨y, 0, none⟩) hB p).setCell (p := ⟨y, 1, none⟩) hB q).setCell (p := ⟨y, 2, none⟩) hB r).setCell (p := ⟨y, 3, none⟩) hB s
theorem size4 (p q r s : Value) : ((((w.setCell ⟨y, 0, none⟩ p).setCell ⟨y, 1, none⟩ q).setCell ⟨y, 2, none⟩ r).setCell ⟨y, 3, none⟩ s).heap.size = w.heap.size := by simp
theorem Bx.far (h : Bx x3 x4 x5 x K td tf th A c w) (hy : y = x3 ∨ y = x4 ∨ y = x5) (hne : x ≠ y) (p q r s : Value) :
    Bx x3 x4 x5 x K td tf th A c ((((w.setCell ⟨y, 0, none⟩ p).setCell ⟨y, 1, none⟩ q).setCell ⟨y, 2, none⟩ r).setCell ⟨y, 3, none⟩ s) :=
  ⟨(((h.1.far (p := ⟨y, 0, none⟩) hne p).far (p := ⟨y, 1, none⟩) hne q).far (p := ⟨y, 2, none⟩) hne r).far (p := ⟨y, 3, none⟩) hne s,
    rd4 h.2.1 (fun a ha => by have := (h.2.2 a ha).2; omega) p q r s, fun a ha => ⟨by rw [size4]; exact (h.2.2 a ha).1, (h.2.2 a ha).2⟩⟩
theorem Bx.put {nd : Bool} {nf : Int} {nh : List Int} {A' : Option Addr} {c' : Nat} {p q r s : Value} (hx : x = x3 ∨ x = x4 ∨ x = x5) (h : Blk w x 28 #[p, q, r, s]) (hr : Rd w 1 A' K (ints nh)) (hA : ∀ a, A' = some a → a.block < w.heap.size ∧ a.block ≠ x3 ∧ a.block ≠ x4 ∧ a.block ≠ x5) :
    Bx x3 x4 x5 x K nd nf nh A' c' ((((w.setCell ⟨x, 0, none⟩ (.bool nd)).setCell ⟨x, 1, none⟩ (.int .i64 nf)).setCell ⟨x, 2, none⟩ (.slice A' K c')).setCell ⟨x, 3, none⟩ (.bool false)) :=
  ⟨blk4 h _ _ _ _, rd4 hr (fun a ha => by have := (hA a ha).2; omega) _ _ _ _, fun a ha => ⟨by rw [size4]; exact (hA a ha).1, (hA a ha).2⟩⟩
end

theorem leL_zero : ∀ n : Nat, leL (List.replicate n 0) (List.replicate n 0)
  | 0 => by simp [leL]
  | n + 1 => by rw [List.replicate_succ]; exact ⟨⟨Int.le_refl _, Int.le_refl _⟩, leL_zero n⟩
/-! ### what is told, one of them louder -/
theorem getD_set {xs : List Int} {n : Nat} {v : Int} {i : Nat} (hn : n < xs.length) : (xs.set n v).getD i 0 = if n = i then v else xs.getD i 0 := by
  simp only [List.getD_eq_getElem?_getD, List.getElem?_set]
  split
  · rename_i h
    subst h
    simp
  · rfl
theorem louder_refl (xs : List Int) : louder xs xs := fun _ h => h
theorem louder_set {xs : List Int} {n : Nat} {v : Int} (hn : n < xs.length) (hv : v ≠ 0) : louder xs (xs.set n v) := fun i h => by
  rw [getD_set hn]
  split
  · exact hv
  · exact h
theorem told_set {xs : List Int} {n : Nat} {v : Int} (h : toldB xs = false) (hv : 0 ≤ v ∧ v < 3) : toldB (xs.set n v) = false := by
  unfold toldB at h ⊢
  rw [List.any_eq_false] at h ⊢
  intro x hx
  rcases List.mem_or_eq_of_mem_set hx with hx | rfl
  · exact h x hx
  · simp [outB]; omega
theorem rd_six (w : World) : Rd (w.alloc (.cells #[.int .i64 1, .int .i64 1, .int .i64 2, .int .i64 0, .int .i64 0, .int .i64 0] 3)) 1 (some ⟨w.heap.size, 0, none⟩) 6 (ints loudest) := by
  refine ⟨rfl, fun _ => ⟨w.heap.size, 0, rfl, fun j u h => ?_⟩⟩
  have c := (Blk.new w 3 #[.int .i64 1, .int .i64 1, .int .i64 2, .int .i64 0, .int .i64 0, .int .i64 0]).cell j
  rw [Nat.zero_add, c, ← h, List.getElem?_toArray]
  rfl
theorem loud_told : toldB loudest = false := by decide
/-- at the loudest, the first vote's count goes up to where the plant goes down -/
def Up (d : Int) (j : Nat) (T : TR) : Prop := T.down = true ∨ (∃ x hs, T.held = x :: hs ∧ (j : Int) ≤ x ∧ (j : Int) ≤ d)
theorem up_next {d : Int} {ps : List (Int × List Int)} {j : Nat} {T : TR} (h : Up d j T) : Up d (j + 1) (nextF d ((2, [0, 1, 2]) :: ps) T loudest false) := by
  rcases h with h | ⟨x, hs, h1, h2, h3⟩
  · exact .inl (down_next h)
  · by_cases hd : T.down = true
    · exact .inl (down_next hd)
    · have hd : T.down = false := by simpa using hd
      have hh := held_next (d := d) (ps := (2, [0, 1, 2]) :: ps) (T := T) (told := loudest) (key := false)
      rw [h1, loudest_held] at hh
      by_cases hx : d + 1 ≤ x + 1
      · refine .inl ?_
        unfold nextF
        rw [if_pos hd, h1, loudest_held, if_pos hx]
        simp [idxOf, List.findIdx?_cons]
      · rw [if_neg hx] at hh
        exact .inr ⟨x + 1, _, hh, by omega, by omega⟩
theorem up_first {d : Int} {n : Nat} {td : Bool} {tf : Int} {th : List Int} (d0 : 0 ≤ d) (hn : 1 ≤ n) (h : standsB d n ⟨td, tf, th, false⟩ = true) : Up d 0 ⟨td, tf, th, false⟩ := by
  obtain ⟨h1, h2, _⟩ := stands_parts h
  cases th with
  | nil => simp at h1; omega
  | cons x hs =>
    rw [List.any_eq_false] at h2
    have h3 := h2 x (List.mem_cons_self ..)
    simp [outB] at h3
    exact .inr ⟨x, hs, rfl, by omega, by omega⟩
theorem up_all {d : Int} {j : Nat} {T : TR} (h : Up d j T) (hj : d < j) : T.down = true := by
  rcases h with h | ⟨x, hs, _, _, h3⟩
  · exact h
  · omega
end Go.Proofs.Ytdofkakbfolpkaa.Sf
