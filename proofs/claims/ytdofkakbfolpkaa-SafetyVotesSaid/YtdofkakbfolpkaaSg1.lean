/-
  A step of a guard, plainly; whether a trip can stand; the place of a number in a list. Conditions: the rows read, within the reach.
-/
import Derived.Test.YtdofkakbfolpkaaSf7
import Derived.Test.YtdofkakbfolpkaaRecs
namespace Go.Proofs.Ytdofkakbfolpkaa.Sf
open Go.RowKit Go.Proofs.Ytdofkakbfolpkaa.W Go.Proofs.Ytdofkakbfolpkaa.Ints Go.Proofs.Ytdofkakbfolpkaa.Pop

def standsB (d : Int) (n : Nat) (T : TR) : Bool := decide (T.held.length = n) && (T.down == decide (0 ≤ T.first)) && decide (-1 ≤ T.first) && decide (T.first < n) && !(T.held.any (outB 0 (d + 2)))
def toldB (told : List Int) : Bool := told.any (outB 0 3)
def votesOn (told : List Int) (of : List Int) : Nat := (of.filter fun x => told.getD x.toNat 0 != 0).length
def holdsB (told : List Int) (p : Int × List Int) : Bool := decide (p.1 ≤ (votesOn told p.2 : Int))
def heldAt (d : Int) (told : List Int) (p : Int × List Int) (h : Int) : Int := if holdsB told p = true then (if d + 1 ≤ h + 1 then d + 1 else h + 1) else 0
def heldF (d : Int) (told : List Int) (ps : List (Int × List Int)) (hs : List Int) : List Int := List.zipWith (heldAt d told) ps hs
def idxOf (v : Int) (xs : List Int) : Int := match xs.findIdx? (fun x => v == x) with | some k => k | none => -1
def nextF (d : Int) (ps : List (Int × List Int)) (T : TR) (told : List Int) (key : Bool) : TR :=
  if T.down = false then ⟨decide (0 ≤ idxOf (d + 1) (heldF d told ps T.held)), idxOf (d + 1) (heldF d told ps T.held), heldF d told ps T.held, key⟩
  else if (key && !T.key && !(ps.any (holdsB told))) = true then ⟨false, -1, heldF d told ps T.held, key⟩ else ⟨T.down, T.first, heldF d told ps T.held, key⟩
def zeroT : TR := ⟨false, 0, [], false⟩
def stepF (m d : Int) (ps : List (Int × List Int)) (T : TR) (told : List Int) (key : Bool) : TR × Int :=
  if (guardF m d ps).1 ≠ 0 then (zeroT, (guardF m d ps).1)
  else if standsB d ps.length T = false then (zeroT, 15)
  else if (told.length : Int) ≠ m then (zeroT, 4)
  else if toldB told = true then (zeroT, 3)
  else (nextF d ps T told key, 0)

/-! ### what the sensors tell, as a set -/
def dmTo (told : List Int) (k : Nat) : Nat := setN ((List.range k).filter (fun i => told.getD i 0 != 0))
theorem dm_next_on {told : List Int} {k : Nat} (h : (told.getD k 0 != 0) = true) : dmTo told (k + 1) = dmTo told k ||| 2 ^ k := by
  unfold dmTo
  rw [List.range_succ, List.filter_append, List.filter_cons, if_pos h, List.filter_nil, setN_snoc]
theorem dm_next_off {told : List Int} {k : Nat} (h : (told.getD k 0 != 0) = false) : dmTo told (k + 1) = dmTo told k := by
  unfold dmTo
  rw [List.range_succ, List.filter_append, List.filter_cons, if_neg (by rw [h]; decide), List.filter_nil, List.append_nil]
theorem dm_lt {told : List Int} {k : Nat} (h : k ≤ 64) : dmTo told k < 18446744073709551616 := by
  refine setN_lt _ fun i hi => ?_
  have := List.mem_range.1 (List.mem_filter.1 hi).1
  omega
theorem dm_bit (told : List Int) (k i : Nat) : (dmTo told k).testBit i = (decide (i < k) && (told.getD i 0 != 0)) := by
  unfold dmTo
  rw [setN_bit, Bool.eq_iff_iff]
  simp
theorem pop_vote {m : Int} {told of : List Int} (hm : m ≤ 64) (hl : (told.length : Int) = m) (h : ∀ x ∈ of, 0 ≤ x ∧ x < m) (hn : of.Nodup) : pop 64 (setF of &&& dmTo told told.length) = votesOn told of := by
  unfold setF
  rw [pop_and _ _ (nats_lt hm h) ((nodup_nats (fun x hx => (h x hx).1)).2 hn)]
  unfold natsOf votesOn
  rw [List.filter_map, List.length_map]
  congr 1
  refine List.filter_congr fun x hx => ?_
  have := h x hx
  simp only [Function.comp, dm_bit]
  rw [show decide (x.toNat < told.length) = true from by rw [decide_eq_true_iff]; omega, Bool.true_and]

/-! ### the row of how long votes have held -/
def rowTo (d : Int) (told : List Int) (ps : List (Int × List Int)) (hs : List Int) (k : Nat) : List Int := (heldF d told ps hs).take k ++ List.replicate (ps.length - k) 0
theorem held_len {d : Int} {told : List Int} {ps : List (Int × List Int)} {hs : List Int} (h : hs.length = ps.length) : (heldF d told ps hs).length = ps.length := by simp [heldF, h]
theorem held_at {d : Int} {told : List Int} {ps : List (Int × List Int)} {hs : List Int} {k : Nat} {p : Int × List Int} (hl : hs.length = ps.length) (hp : ps[k]? = some p) : (heldF d told ps hs)[k]? = some (heldAt d told p (hs.getD k 0)) := by
  have hk := (List.getElem?_eq_some_iff.1 hp).1
  unfold heldF
  rw [List.getElem?_zipWith, hp, List.getElem?_eq_getElem (by omega : k < hs.length)]
  simp [List.getD_eq_getElem?_getD, List.getElem?_eq_getElem (by omega : k < hs.length)]
theorem row_len {d : Int} {told : List Int} {ps : List (Int × List Int)} {hs : List Int} {k : Nat} (hl : hs.length = ps.length) (hk : k ≤ ps.length) : (rowTo d told ps hs k).length = ps.length := by
  simp [rowTo, held_len hl]
  omega
theorem row_next {d : Int} {told : List Int} {ps : List (Int × List Int)} {hs : List Int} {k : Nat} {p : Int × List Int} (hl : hs.length = ps.length) (hp : ps[k]? = some p) :
    rowTo d told ps hs (k + 1) = (rowTo d told ps hs k).set k (heldAt d told p (hs.getD k 0)) := by
  have hk := (List.getElem?_eq_some_iff.1 hp).1
  have h1 := held_at (d := d) (told := told) hl hp
  have hlen := held_len (d := d) (told := told) hl
  have h2 : (heldF d told ps hs)[k]'(by omega) = heldAt d told p (hs.getD k 0) := by
    rw [List.getElem?_eq_getElem (by omega)] at h1
    injection h1
  unfold rowTo
  rw [List.take_succ_eq_append_getElem (by omega), h2, List.append_assoc, List.set_append_right _ _ (by simp; omega)]
  congr 1
  have e : k - ((heldF d told ps hs).take k).length = 0 := by simp; omega
  rw [e, show ps.length - k = (ps.length - (k + 1)) + 1 by omega, List.replicate_succ]
  rfl
theorem row_same {d : Int} {told : List Int} {ps : List (Int × List Int)} {hs : List Int} {k : Nat} {p : Int × List Int} (hl : hs.length = ps.length) (hp : ps[k]? = some p) (h0 : heldAt d told p (hs.getD k 0) = 0) :
    rowTo d told ps hs (k + 1) = rowTo d told ps hs k := by
  rw [row_next hl hp, h0]
  have hk := (List.getElem?_eq_some_iff.1 hp).1
  have hlen := held_len (d := d) (told := told) hl
  unfold rowTo
  rw [List.set_append_right _ _ (by simp; omega)]
  congr 1
  have e : k - ((heldF d told ps hs).take k).length = 0 := by simp; omega
  rw [e, show ps.length - k = (ps.length - (k + 1)) + 1 by omega, List.replicate_succ]
  rfl
theorem row_zero (d : Int) (told : List Int) (ps : List (Int × List Int)) (hs : List Int) : rowTo d told ps hs 0 = List.replicate ps.length 0 := by simp [rowTo]
theorem row_all {d : Int} {told : List Int} {ps : List (Int × List Int)} {hs : List Int} (hl : hs.length = ps.length) : rowTo d told ps hs ps.length = heldF d told ps hs := by
  simp only [rowTo, Nat.sub_self, List.replicate_zero, List.append_nil]
  exact List.take_of_length_le (by rw [held_len hl]; exact Nat.le_refl _)
theorem ints_set (xs : List Int) (k : Nat) (x : Int) : (ints xs).set k (.int .i64 x) = ints (xs.set k x) := by simp [List.map_set]

theorem idx_some {v : Int} {xs : List Int} {k : Nat} (hk : k < xs.length) (hb : (v == xs.getD k 0) = true) (h : (xs.take k).any (fun x => v == x) = false) : idxOf v xs = k := by
  have : xs.findIdx? (fun x => v == x) = some k := by
    rw [List.findIdx?_eq_some_iff_getElem]
    refine ⟨hk, by simpa [List.getD_eq_getElem?_getD, List.getElem?_eq_getElem hk] using hb, fun j hj => ?_⟩
    rw [List.any_eq_false] at h
    exact h _ (List.mem_take_iff_getElem.2 ⟨j, by omega, rfl⟩)
  simp [idxOf, this]
theorem idx_none {v : Int} {xs : List Int} (h : xs.any (fun x => v == x) = false) : idxOf v xs = -1 := by
  have : xs.findIdx? (fun x => v == x) = none := by
    rw [List.findIdx?_eq_none_iff]
    intro x hx
    rw [List.any_eq_false] at h
    simpa using h x hx
  simp [idxOf, this]
theorem idx_next {v : Int} {xs : List Int} {k : Nat} (hk : k < xs.length) (h : (xs.take k).any (fun x => v == x) = false) (hb : (v == xs.getD k 0) = false) : (xs.take (k + 1)).any (fun x => v == x) = false := by
  rw [List.take_succ_eq_append_getElem hk, List.any_append, h]
  simpa [List.getD_eq_getElem?_getD, List.getElem?_eq_getElem hk] using hb

set_option maxHeartbeats 1600000 in
theorem Index_any (A : Option Addr) (n c : Nat) (v : Int) (xs : List Int) (w : World) (hr : Rd w 1 A n (ints xs)) (hn : n * 8 ≤ 140737488351232) :
    Calls Try.prog 25 #[.slice A n c, .int .i64 v] w fun e w' => e = .returned (.int .i64 (idxOf v xs)) ∧ w' = w := by
  have HL := Lib.hid (rd_len hr)
  have HR := Lib.hid hr
  clear hr
  go_enter Try.func25, Try.ntmps25
  go_wp2
  go_loop [5, 8] (fun _ i => ∃ k : Nat, k ≤ n ∧ i = .int .i64 k ∧ Hid ((xs.take k).any (fun x => v == x) = false)) (fun _ i => n - (intOf i).toNat)
  case atStart => exact ⟨0, Nat.zero_le _, rfl, by simp [Hid]⟩
  case round =>
    obtain ⟨k, hk, rfl, ha⟩ := hrel
    by_cases hlt : k < n
    · obtain ⟨b, o, rfl, hc⟩ := rd_at HR.out (by omega)
      have h1 := hc k hlt
      clear hc
      have HK : Hid (k < xs.length) := by rw [Hid, HL.out]; exact hlt
      cases ho : (v == xs.getD k 0)
      · have HO := Lib.hid ho
        have HNX := Lib.hid (idx_next HK.out ha.out HO.out)
        generalize xs.getD k 0 = x at *
        go_wp2
        go_round
        case rel => exact ⟨k + 1, by omega, by go_num, HNX⟩
        case measure => simp [intOf]; omega
      · have HO := Lib.hid ho
        have HNX := Lib.hid (idx_some HK.out HO.out ha.out)
        generalize xs.getD k 0 = x at *
        go_wp2
        go_ret
        exact ⟨ret_int HNX.out.symm, rfl⟩
    · have hf : (-1 : Int) = idxOf v xs := by
        have h := ha.out
        rw [List.take_of_length_le (by rw [HL.out]; omega)] at h
        rw [idx_none h]
      have HF := Lib.hid hf
      clear hf
      go_wp2
      go_ret
      exact ⟨ret_int HF.out, rfl⟩
end Go.Proofs.Ytdofkakbfolpkaa.Sf
