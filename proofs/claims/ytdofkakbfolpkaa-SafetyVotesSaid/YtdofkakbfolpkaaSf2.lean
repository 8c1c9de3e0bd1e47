/-
  A vote's sensors as a set; what is wrong with a vote. Conditions: the list reads; no more than 64 sensors.
-/
import Derived.Test.YtdofkakbfolpkaaSf1
import Derived.Test.YtdofkakbfolpkaaRec
import Derived.Deep.QuietTactic
import Derived.BigQuiet
namespace Go.Proofs.Ytdofkakbfolpkaa.Sf
open Go.RowKit Go.Proofs.Ytdofkakbfolpkaa.W Go.Proofs.Ytdofkakbfolpkaa.Ints Go.Proofs.Ytdofkakbfolpkaa.Pop

def natsOf (xs : List Int) : List Nat := xs.map Int.toNat
def setF (xs : List Int) : Nat := setN (natsOf xs)
/-- what is wrong with a vote -/
def codeF (m need : Int) (xs : List Int) : Int :=
  if xs.length = 0 then 4 else if xs.any (outB 0 m) = true then 6 else if xs.Nodup then (if need < 1 ∨ (xs.length : Int) < need then 3 else 0) else 7
theorem in_of_not_any {m : Int} {xs : List Int} (h : xs.any (outB 0 m) = false) : ∀ x ∈ xs, 0 ≤ x ∧ x < m := by
  intro x hx
  rw [List.any_eq_false] at h
  have := h x hx
  simp [outB] at this
  exact this
theorem nats_lt {m : Int} {xs : List Int} (hm : m ≤ 64) (h : ∀ x ∈ xs, 0 ≤ x ∧ x < m) : ∀ i ∈ natsOf xs, i < 64 := by
  intro i hi
  obtain ⟨x, hx, rfl⟩ := List.mem_map.1 hi
  have := h x hx
  omega
theorem nodup_nats {xs : List Int} (h : ∀ x ∈ xs, 0 ≤ x) : (natsOf xs).Nodup ↔ xs.Nodup := by
  unfold natsOf
  induction xs with
  | nil => simp
  | cons a xs ih =>
    rw [List.map_cons, List.nodup_cons, List.nodup_cons, ih (fun x hx => h x (List.mem_cons_of_mem _ hx))]
    refine and_congr (not_congr ?_) Iff.rfl
    rw [List.mem_map]
    constructor
    · rintro ⟨x, hx, e⟩
      have h1 := h x (List.mem_cons_of_mem _ hx)
      have h2 := h a (List.mem_cons_self ..)
      have : x = a := by omega
      rw [← this]; exact hx
    · intro hx
      exact ⟨a, hx, rfl⟩
theorem setF_lt {m : Int} {xs : List Int} (hm : m ≤ 64) (h : ∀ x ∈ xs, 0 ≤ x ∧ x < m) : setF xs < 18446744073709551616 := setN_lt _ (nats_lt hm h)
theorem setF_snoc (xs : List Int) (x : Int) : setF (xs ++ [x]) = setF xs ||| 2 ^ x.toNat := by simp [setF, natsOf, setN_snoc]
theorem set_next {xs : List Int} {k : Nat} (hk : k < xs.length) : setF (xs.take (k + 1)) = setF (xs.take k) ||| 2 ^ (xs.getD k 0).toNat := by
  rw [List.take_succ_eq_append_getElem hk, setF_snoc]
  simp [List.getD_eq_getElem?_getD, List.getElem?_eq_getElem hk]
theorem set_twice {m : Int} {xs : List Int} (hm : m ≤ 64) (h : ∀ x ∈ xs, 0 ≤ x ∧ x < m) : pop 64 (setF xs) ≤ xs.length ∧ (pop 64 (setF xs) = xs.length ↔ xs.Nodup) := by
  have h1 := pop_setN _ (nats_lt hm h)
  rw [nodup_nats (fun x hx => (h x hx).1)] at h1
  have e : (natsOf xs).length = xs.length := by simp [natsOf]
  rw [e] at h1
  exact h1

theorem size_q (x : Nat) (w : World) (hx : x < 18446744073709551616) :
    Calls Try.prog 24 #[.int .u64 x] w fun e w' => e = .returned (.int .i64 (pop 64 x : Int)) ∧ w' = w := (size_any x w hx).mono fun _ _ h => ⟨h.1, h.2.symm⟩
theorem or_u64 {a b : Nat} (ha : a < 18446744073709551616) (hb : b < 18446744073709551616) : bits .or .u64 (a : Int) (b : Int) = ((a ||| b : Nat) : Int) := u64_or_nat a b ha hb
theorem or_bit {s j : Nat} (hs : s < 18446744073709551616) (hj : j < 64) : bits .or .u64 (s : Int) (IntKind.u64.wrap (2 ^ j)) = ((s ||| 2 ^ j : Nat) : Int) := by
  have h2 : 2 ^ j < 18446744073709551616 := Nat.lt_of_lt_of_le (Nat.pow_lt_pow_right (by omega) hj) (by decide)
  have e : ((2 : Int) ^ j) = ((2 ^ j : Nat) : Int) := by simp
  rw [e, wrap_u64_nat _ h2, u64_or_nat _ _ hs h2]
def voteR (m need : Int) (xs : List Int) : Nat × Int := (if codeF m need xs = 0 then setF xs else 0, codeF m need xs)

theorem setF_take_lt {m : Int} {xs : List Int} (hm : m ≤ 64) (h : ∀ x ∈ xs, 0 ≤ x ∧ x < m) (k : Nat) : setF (xs.take k) < 18446744073709551616 := setF_lt hm fun x hx => h x (List.mem_of_mem_take hx)
theorem below_2d (w : World) (o1 o2 : Obj) (k : Nat) : Below w.heap.size w (((w.alloc o1).alloc o2).drewN k) := below_drewN (below2 w o1 o2) k

set_option maxHeartbeats 3200000 in
theorem vote_ok (need : Int) (A : Option Addr) (n c : Nat) (m : Int) (xs : List Int) (w : World) (hr : Rd w 1 A n (ints xs)) (hn : n * 8 ≤ 140737488351232) (hm : m ≤ 64) (h0 : 0 < n) (ha : xs.any (outB 0 m) = false) :
    Calls Try.prog 26 #[.agg #[.int .i64 need, .slice A n c], .int .i64 m] w fun e w' => e = .returned (.tuple #[.int .u64 ((voteR m need xs).1 : Int), .int .i64 (voteR m need xs).2]) ∧ Below w.heap.size w w' := by
  have hl := rd_len hr
  have hin := in_of_not_any ha
  have htw := set_twice hm hin
  have hs64 := setF_lt hm hin
  have hR : codeF m need xs = if xs.Nodup then (if need < 1 ∨ (n : Int) < need then 3 else 0) else 7 := by
    unfold codeF
    rw [if_neg (by omega), ha, hl]
    simp
  have hT : voteR m need xs = (if codeF m need xs = 0 then setF xs else 0, codeF m need xs) := rfl
  generalize voteR m need xs = T at *
  generalize codeF m need xs = C at *
  have HT := Lib.hid hT
  clear hT
  have HL := Lib.hid hl
  have HR := Lib.hid hr
  have HA := Lib.hid ha
  have HI := Lib.hid hin
  have HC := Lib.hid hR
  have HTW := Lib.hid htw
  have HS64 := Lib.hid hs64
  have HM := Lib.hid hm
  have hn0 : ((n : Int) == 0) = false := by simp; omega
  clear hr ha hin hR htw hs64 hl hm
  go_enter Try.func26, Try.ntmps26
  go_wp2_with fail
  refine (ContainsFunc_0 (w.heap.size + 1) 0 m A n c xs _ ((HR.out.alloc _).alloc _) hn (fun x => vote1_any _ x m _ (by simp))).mono ?_
  rintro e w1 ⟨rfl, rfl⟩
  rw [HA.out]
  go_wp2
  go_loop [6, 8, 20] (fun s _ i => ∃ k : Nat, k ≤ n ∧ i = .int .i64 k ∧ s = .int .u64 (setF (xs.take k) : Int)) (fun _ _ i => n - (intOf i).toNat)
  case atStart => exact ⟨0, Nat.zero_le _, rfl, rfl⟩
  case round =>
    obtain ⟨k, hk, rfl, rfl⟩ := hrel
    by_cases hlt : k < n
    · obtain ⟨b, o, rfl, hc⟩ := rd_at HR.out (by omega)
      have h1 := hc k hlt
      have hbl := lt_of_cell h1
      have HS := Lib.hid (set_next (xs := xs) (k := k) (by rw [HL.out]; exact hlt))
      have hx : 0 ≤ xs.getD k 0 ∧ xs.getD k 0 < m := HI.out _ (by
        have hk' : k < xs.length := by rw [HL.out]; exact hlt
        simp [List.getD_eq_getElem?_getD, List.getElem?_eq_getElem hk'])
      have HSK := Lib.hid (setF_take_lt HM.out HI.out k)
      generalize xs.getD k 0 = x at *
      obtain ⟨j, rfl⟩ := Int.eq_ofNat_of_zero_le hx.1
      have hj : j < 64 := by have := HM.out; omega
      clear hc
      go_wp2
      go_round
      case rel => exact ⟨k + 1, by omega, by go_num, by rw [or_bit HSK.out hj, HS.out]; rfl⟩
      case measure => simp [intOf]; omega
    · have hk' : xs.take k = xs := List.take_of_length_le (by rw [HL.out]; omega)
      rw [hk']
      obtain rfl : k = n := by omega
      clear hk' hk
      have hp := HTW.out.1
      have HP := Lib.hid HTW.out.2
      rw [HL.out] at hp
      have hpn : pop 64 (setF xs) = k ↔ xs.Nodup := by have := HP.out; rw [HL.out] at this; exact this
      have HPN := Lib.hid hpn
      have HSZ : Hid (∀ W : World, Calls Try.prog 24 #[.int .u64 (setF xs : Int)] W fun e w' => e = .returned (.int .i64 (pop 64 (setF xs) : Int)) ∧ w' = W) := fun W => size_q _ W HS64.out
      clear hpn HP HTW HA HI
      generalize pop 64 (setF xs) = p at *
      generalize setF xs = S at *
      have hkn : (k : Int) ≤ 9223372036854775807 := by omega
      by_cases hd : p = k
      · obtain rfl : p = k := hd
        have hnn : ((p : Int) != (p : Int)) = false := by simp
        have HCC : Hid (C = if need < 1 ∨ (p : Int) < need then 3 else 0) := by rw [Hid, HC.out, if_pos (HPN.out.1 rfl)]
        clear HC HPN
        by_cases h1 : need < 1
        · have HX : Hid (T = (0, 3)) := HT.out.trans (by rw [show C = 3 from by rw [HCC.out, if_pos (.inl h1)]]; rfl)
          go_wp2
          go_quiet (((go_at_call 24; exact Calls.quiet_of_same (HSZ.out _))))
          go_wp2
          go_ret2
          exact ⟨by rw [HX.out]; rfl, below_2d _ _ _ _⟩
        · have h1' : 1 ≤ need := by omega
          clear h1
          by_cases h2 : (p : Int) < need
          · have HX : Hid (T = (0, 3)) := HT.out.trans (by rw [show C = 3 from by rw [HCC.out, if_pos (.inr h2)]]; rfl)
            go_wp2
            go_quiet (((go_at_call 24; exact Calls.quiet_of_same (HSZ.out _))))
            go_wp2
            go_ret2
            exact ⟨by rw [HX.out]; rfl, below_2d _ _ _ _⟩
          · have HX : Hid (T = (S, 0)) := HT.out.trans (by rw [show C = 0 from by rw [HCC.out, if_neg (by omega)]]; rfl)
            have h2' : need ≤ (p : Int) := by omega
            clear h2
            go_wp2
            go_quiet (((go_at_call 24; exact Calls.quiet_of_same (HSZ.out _))))
            go_wp2
            go_ret2
            exact ⟨by rw [HX.out]; rfl, below_2d _ _ _ _⟩
      · have hnn : ((p : Int) != (k : Int)) = true := by simp; omega
        have HX : Hid (T = (0, 7)) := HT.out.trans (by rw [show C = 7 from by rw [HC.out, if_neg (fun h => hd (HPN.out.2 h))]]; rfl)
        clear HC HPN hd
        go_wp2
        go_quiet (((go_at_call 24; exact Calls.quiet_of_same (HSZ.out _))))
        go_wp2
        go_ret2
        exact ⟨by rw [HX.out]; rfl, below_2d _ _ _ _⟩

/-- a vote: its sensors as a set, or what is wrong with it -/
theorem vote_any (need : Int) (A : Option Addr) (n c : Nat) (m : Int) (xs : List Int) (w : World) (hr : Rd w 1 A n (ints xs)) (hn : n * 8 ≤ 140737488351232) (hm : m ≤ 64) :
    Calls Try.prog 26 #[.agg #[.int .i64 need, .slice A n c], .int .i64 m] w fun e w' => e = .returned (.tuple #[.int .u64 ((voteR m need xs).1 : Int), .int .i64 (voteR m need xs).2]) ∧ Below w.heap.size w w' := by
  have hl := rd_len hr
  by_cases h0 : n = 0
  · subst h0
    have hC : voteR m need xs = (0, 4) := by simp [voteR, codeF, hl]
    rw [hC]
    clear hC hl
    go_enter Try.func26, Try.ntmps26
    go_wp2
    go_ret2
    exact ⟨rfl, below2 _ _ _⟩
  · cases ha : xs.any (outB 0 m)
    · exact vote_ok need A n c m xs w hr hn hm (by omega) ha
    · have hC : voteR m need xs = (0, 6) := by simp [voteR, codeF, hl, h0, ha]
      rw [hC]
      have HR := Lib.hid hr
      have HA := Lib.hid ha
      have hn0 : ((n : Int) == 0) = false := by simp; omega
      clear hC hl hr ha
      go_enter Try.func26, Try.ntmps26
      go_wp2_with fail
      refine (ContainsFunc_0 (w.heap.size + 1) 0 m A n c xs _ ((HR.out.alloc _).alloc _) hn (fun x => vote1_any _ x m _ (by simp))).mono ?_
      rintro e w1 ⟨rfl, rfl⟩
      rw [HA.out]
      go_wp2
      go_ret2
      exact ⟨rfl, below2 _ _ _⟩
end Go.Proofs.Ytdofkakbfolpkaa.Sf
