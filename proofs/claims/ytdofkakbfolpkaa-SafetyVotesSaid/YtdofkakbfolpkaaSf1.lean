/-
  The count of a set's members; whether a list holds what is asked. Conditions: the number is one of 64 bits; the list reads.
-/
import Derived.Test.YtdofkakbfolpkaaPop
import Derived.Test.YtdofkakbfolpkaaNum
import Derived.Test.YtdofkakbfolpkaaInts
import Derived.Outline
namespace Go.Proofs.Ytdofkakbfolpkaa.Sf
open Go.RowKit Go.Proofs.Ytdofkakbfolpkaa.W Go.Proofs.Ytdofkakbfolpkaa.Ints Go.Proofs.Ytdofkakbfolpkaa.Pop

theorem wrap_u64 (n : Int) (h0 : 0 ≤ n) (h1 : n < 18446744073709551616) : IntKind.u64.wrap n = n := IntWalk.u64_in _ (by omega)
theorem wrap_u64_nat (n : Nat) (h1 : n < 18446744073709551616) : IntKind.u64.wrap (n : Int) = n := wrap_u64 _ (by omega) (by omega)
theorem i64_and127 (n : Nat) (h : n < 9223372036854775808) : bits .and .i64 (n : Int) 127 = ((n % 128 : Nat) : Int) := by
  have := Num.i64_and_nat n 127 h (by omega)
  rw [nat_mask7] at this
  exact this
set_option maxHeartbeats 1600000 in
theorem ones_any (x : Nat) (w : World) (hx : x < 18446744073709551616) :
    Calls Try.prog 29 #[.int .u64 x] w fun e w' => e = .returned (.int .i64 (pop 64 x : Int)) ∧ w = w' := by
  have hc := count_eq x
  simp only at hc
  generalize ha : (x / 2 &&& 6148914691236517205) + (x &&& 6148914691236517205) = a at hc
  generalize hb : (a / 4 &&& 3689348814741910323) + (a &&& 3689348814741910323) = b at hc
  generalize hcc : (b / 16 + b) &&& 1085102592571150095 = c at hc
  obtain ⟨hp, h1, h2, h3⟩ := hc
  have ea : IntKind.u64.wrap (bits .and .u64 ((x : Int) / 2) 6148914691236517205 + bits .and .u64 (x : Int) 6148914691236517205) = (a : Int) := by
    have e1 := u64_and_nat (x / 2) 6148914691236517205 (by omega) (by omega)
    have e2 := u64_and_nat x 6148914691236517205 (by omega) (by omega)
    simp only [Int.natCast_ediv, Int.cast_ofNat_Int] at e1 e2
    rw [e1, e2, ← Int.natCast_add, ha]
    exact wrap_u64_nat _ h1
  have eb : IntKind.u64.wrap (bits .and .u64 ((a : Int) / 4) 3689348814741910323 + bits .and .u64 (a : Int) 3689348814741910323) = (b : Int) := by
    have e1 := u64_and_nat (a / 4) 3689348814741910323 (by omega) (by omega)
    have e2 := u64_and_nat a 3689348814741910323 (by omega) (by omega)
    simp only [Int.natCast_ediv, Int.cast_ofNat_Int] at e1 e2
    rw [e1, e2, ← Int.natCast_add, hb]
    exact wrap_u64_nat _ (by omega)
  have ec : bits .and .u64 (IntKind.u64.wrap ((b : Int) / 16 + (b : Int))) 1085102592571150095 = (c : Int) := by
    rw [wrap_u64 _ (by omega) (by omega)]
    have e1 := u64_and_nat (b / 16 + b) 1085102592571150095 (by omega) (by omega)
    simp only [Int.natCast_ediv, Int.natCast_add, Int.cast_ofNat_Int] at e1
    rw [e1, hcc]
  have ed : IntKind.u64.wrap ((c : Int) + (c : Int) / 256) = ((c + c / 256 : Nat) : Int) := by
    rw [wrap_u64 _ (by omega) (by omega)]; omega
  generalize hd : c + c / 256 = d at *
  have hd1 : d ≤ 1157442765409226768 := by omega
  have ee : IntKind.u64.wrap ((d : Int) + (d : Int) / 65536) = ((d + d / 65536 : Nat) : Int) := by
    rw [wrap_u64 _ (by omega) (by omega)]; omega
  generalize he : d + d / 65536 = f at *
  have hf1 : f ≤ 2314885530818453536 := by omega
  have ef : IntKind.u64.wrap ((f : Int) + (f : Int) / 4294967296) = ((f + f / 4294967296 : Nat) : Int) := by
    rw [wrap_u64 _ (by omega) (by omega)]; omega
  generalize hg : f + f / 4294967296 = g at *
  have hg1 : g ≤ 4629771061636907072 := by omega
  have eg : wrap64 (g : Int) = (g : Int) := Num.wrap64_in _ (by omega) (by omega)
  have eh := i64_and127 g (Nat.lt_of_le_of_lt hg1 (by decide))
  rw [hp] at eh
  have HA := Lib.hid ea
  have HB := Lib.hid eb
  have HC := Lib.hid ec
  have HD := Lib.hid ed
  have HE := Lib.hid ee
  have HF := Lib.hid ef
  have HG := Lib.hid eg
  have HH := Lib.hid eh
  clear ea eb ec ed ee ef eg eh ha hb hcc hp h1 h2 h3 hd he hg hd1 hf1 hg1
  go_enter Try.func29, Try.ntmps29
  go_wp2
  go_ret
  refine ⟨?_, rfl⟩
  refine ret_int ?_
  simp only [HA.out, HB.out, HC.out, HD.out, HE.out, HF.out, HG.out, HH.out]
theorem size_any (x : Nat) (w : World) (hx : x < 18446744073709551616) :
    Calls Try.prog 24 #[.int .u64 x] w fun e w' => e = .returned (.int .i64 (pop 64 x : Int)) ∧ w = w' := by
  have HX := Lib.hid hx
  clear hx
  go_enter Try.func24, Try.ntmps24
  go_wp2_with fail
  refine (ones_any x _ HX.out).mono ?_
  rintro e w' ⟨rfl, rfl⟩
  go_wp2
  go_ret
  exact ⟨rfl, rfl⟩

/-! ### does a list hold one that is out of bounds? -/
def outB (lo hi : Int) (n : Int) : Bool := decide (n < lo) || decide (hi ≤ n)
theorem vote1_any (q : Nat) (n hi : Int) (w : World) (h : w.cell? ⟨q, 0, none⟩ = some (.int .i64 hi)) :
    Calls Try.prog 30 #[.int .i64 n, .pointer (some ⟨q, 0, none⟩)] w fun e w' => e = .returned (.bool (outB 0 hi n)) ∧ w = w' := by
  have hq := lt_of_cell h
  go_enter Try.func30, Try.ntmps30
  by_cases h1 : n < 0
  · go_wp2
    go_ret
    exact ⟨ret_bool (by simp [outB, h1]), rfl⟩
  · have h1' : 0 ≤ n := by omega
    go_wp2
    go_ret
    exact ⟨ret_bool (by simp [outB]; try omega), rfl⟩
theorem stands1_any (q : Nat) (n hi : Int) (w : World) (h : w.cell? ⟨q, 1, none⟩ = some (.int .i64 hi)) (h0 : 0 ≤ hi) (h1 : hi ≤ 1000) :
    Calls Try.prog 28 #[.int .i64 n, .pointer (some ⟨q, 0, none⟩)] w fun e w' => e = .returned (.bool (outB 0 (hi + 2) n)) ∧ w = w' := by
  have hq := lt_of_cell h
  go_enter Try.func28, Try.ntmps28
  by_cases h1 : n < 0
  · go_wp2
    go_ret
    exact ⟨ret_bool (by simp [outB, h1]), rfl⟩
  · have h1' : 0 ≤ n := by omega
    go_wp2
    go_ret
    exact ⟨ret_bool (by rw [Bool.eq_iff_iff]; simp [outB]; try omega), rfl⟩

/-- which is first out of bounds -/
def outAt (lo hi : Int) (xs : List Int) : Int := match xs.findIdx? (outB lo hi) with | some k => k | none => -1
theorem out_some {lo hi : Int} {xs : List Int} {k : Nat} (hk : k < xs.length) (hb : outB lo hi (xs.getD k 0) = true) (h : (xs.take k).any (outB lo hi) = false) : outAt lo hi xs = k := by
  have : xs.findIdx? (outB lo hi) = some k := by
    rw [List.findIdx?_eq_some_iff_getElem]
    refine ⟨hk, by simpa [List.getD_eq_getElem?_getD, List.getElem?_eq_getElem hk] using hb, fun j hj => ?_⟩
    rw [List.any_eq_false] at h
    exact h _ (List.mem_take_iff_getElem.2 ⟨j, by omega, rfl⟩)
  simp [outAt, this]
theorem out_none {lo hi : Int} {xs : List Int} (h : xs.any (outB lo hi) = false) : outAt lo hi xs = -1 := by
  have : xs.findIdx? (outB lo hi) = none := by
    rw [List.findIdx?_eq_none_iff]
    intro x hx
    rw [List.any_eq_false] at h
    simpa using h x hx
  simp [outAt, this]
theorem any_next {lo hi : Int} {xs : List Int} {k : Nat} (hk : k < xs.length) (h : (xs.take k).any (outB lo hi) = false) (hb : outB lo hi (xs.getD k 0) = false) : (xs.take (k + 1)).any (outB lo hi) = false := by
  rw [List.take_succ_eq_append_getElem hk, List.any_append, h]
  simpa [List.getD_eq_getElem?_getD, List.getElem?_eq_getElem hk] using hb
theorem any_at {lo hi : Int} {xs : List Int} {k : Nat} (hk : k < xs.length) (hb : outB lo hi (xs.getD k 0) = true) : xs.any (outB lo hi) = true := by
  rw [List.any_eq_true]
  exact ⟨xs[k], List.getElem_mem _, by simpa [List.getD_eq_getElem?_getD, List.getElem?_eq_getElem hk] using hb⟩

theorem out_iff (lo hi : Int) (xs : List Int) : decide (0 ≤ outAt lo hi xs) = xs.any (outB lo hi) := by
  unfold outAt
  cases h : xs.findIdx? (outB lo hi) with
  | none =>
    rw [List.findIdx?_eq_none_iff] at h
    have : xs.any (outB lo hi) = false := by rw [List.any_eq_false]; intro x hx; simp [h x hx]
    simp [this]
  | some k =>
    rw [List.findIdx?_eq_some_iff_getElem] at h
    obtain ⟨hk, hb, _⟩ := h
    have : xs.any (outB lo hi) = true := by rw [List.any_eq_true]; exact ⟨_, List.getElem_mem _, hb⟩
    simp [this]
set_option maxHeartbeats 1600000 in
/-- IndexFunc at a closure that tells of a number whether it is out of bounds -/
theorem IndexFunc_0 (q : Nat) (lo hi : Int) (A : Option Addr) (n c : Nat) (xs : List Int) (w : World) (hr : Rd w 1 A n (ints xs)) (hn : n * 8 ≤ 140737488351232)
    (hf : ∀ x : Int, Calls Try.prog 30 #[.int .i64 x, .pointer (some ⟨q, 0, none⟩)] w fun e w' => e = .returned (.bool (outB lo hi x)) ∧ w = w') :
    Calls Try.prog 31 #[.slice A n c, .func (.func 30) #[] #[.pointer (some ⟨q, 0, none⟩)]] w fun e w' => e = .returned (.int .i64 (outAt lo hi xs)) ∧ w = w' := by
  have HL := Lib.hid (rd_len hr)
  have HR := Lib.hid hr
  have HF := Lib.hid hf
  clear hr hf
  go_enter Try.func31, Try.ntmps31
  go_wp2
  go_loop [5, 8] (fun _ i => ∃ k : Nat, k ≤ n ∧ i = .int .i64 k ∧ Hid ((xs.take k).any (outB lo hi) = false)) (fun _ i => n - (intOf i).toNat)
  case atStart => exact ⟨0, Nat.zero_le _, rfl, by simp [Hid]⟩
  case round =>
    obtain ⟨k, hk, rfl, ha⟩ := hrel
    by_cases hlt : k < n
    · obtain ⟨b, o, rfl, hc⟩ := rd_at HR.out (by omega)
      have h1 := hc k hlt
      clear hc
      have HK : Hid (k < xs.length) := by rw [Hid, HL.out]; exact hlt
      cases ho : outB lo hi (xs.getD k 0)
      all_goals have HO := Lib.hid ho
      all_goals clear ho
      all_goals generalize hx : xs.getD k 0 = x at h1
      all_goals have HX := Lib.hid hx
      all_goals clear hx
      all_goals go_wp2_with fail
      all_goals refine (HF.out x).mono ?_
      all_goals rintro e w1 ⟨rfl, rfl⟩
      all_goals rw [← HX.out, HO.out]
      · go_wp2
        go_round
        case rel => exact ⟨k + 1, by omega, by go_num, any_next HK.out ha.out HO.out⟩
        case measure => simp [intOf]; omega
      · go_wp2
        go_ret
        exact ⟨ret_int (by rw [out_some HK.out HO.out ha.out]), rfl⟩
    · have hf : (-1 : Int) = outAt lo hi xs := by
        have h := ha.out
        rw [List.take_of_length_le (by rw [HL.out]; omega)] at h
        rw [out_none h]
      have HF := Lib.hid hf
      clear hf
      go_wp2
      go_ret
      exact ⟨ret_int HF.out, rfl⟩

theorem ContainsFunc_0 (q : Nat) (lo hi : Int) (A : Option Addr) (n c : Nat) (xs : List Int) (w : World) (hr : Rd w 1 A n (ints xs)) (hn : n * 8 ≤ 140737488351232)
    (hf : ∀ x : Int, Calls Try.prog 30 #[.int .i64 x, .pointer (some ⟨q, 0, none⟩)] w fun e w' => e = .returned (.bool (outB lo hi x)) ∧ w = w') :
    Calls Try.prog 27 #[.slice A n c, .func (.func 30) #[] #[.pointer (some ⟨q, 0, none⟩)]] w fun e w' => e = .returned (.bool (xs.any (outB lo hi))) ∧ w = w' := by
  have HC := Lib.hid (IndexFunc_0 q lo hi A n c xs w hr hn hf)
  clear hr hf
  go_enter Try.func27, Try.ntmps27
  go_wp2_with fail
  refine HC.out.mono ?_
  rintro e w1 ⟨rfl, rfl⟩
  go_wp2
  go_ret
  exact ⟨ret_bool (out_iff lo hi xs), rfl⟩
set_option maxHeartbeats 1600000 in
/-- IndexFunc at a closure that tells of a number whether it is out of bounds -/
theorem IndexFunc_1 (q : Nat) (lo hi : Int) (A : Option Addr) (n c : Nat) (xs : List Int) (w : World) (hr : Rd w 1 A n (ints xs)) (hn : n * 8 ≤ 140737488351232)
    (hf : ∀ x : Int, Calls Try.prog 28 #[.int .i64 x, .pointer (some ⟨q, 0, none⟩)] w fun e w' => e = .returned (.bool (outB lo hi x)) ∧ w = w') :
    Calls Try.prog 31 #[.slice A n c, .func (.func 28) #[] #[.pointer (some ⟨q, 0, none⟩)]] w fun e w' => e = .returned (.int .i64 (outAt lo hi xs)) ∧ w = w' := by
  have HL := Lib.hid (rd_len hr)
  have HR := Lib.hid hr
  have HF := Lib.hid hf
  clear hr hf
  go_enter Try.func31, Try.ntmps31
  go_wp2
  go_loop [5, 8] (fun _ i => ∃ k : Nat, k ≤ n ∧ i = .int .i64 k ∧ Hid ((xs.take k).any (outB lo hi) = false)) (fun _ i => n - (intOf i).toNat)
  case atStart => exact ⟨0, Nat.zero_le _, rfl, by simp [Hid]⟩
  case round =>
    obtain ⟨k, hk, rfl, ha⟩ := hrel
    by_cases hlt : k < n
    · obtain ⟨b, o, rfl, hc⟩ := rd_at HR.out (by omega)
      have h1 := hc k hlt
      clear hc
      have HK : Hid (k < xs.length) := by rw [Hid, HL.out]; exact hlt
      cases ho : outB lo hi (xs.getD k 0)
      all_goals have HO := Lib.hid ho
      all_goals clear ho
      all_goals generalize hx : xs.getD k 0 = x at h1
      all_goals have HX := Lib.hid hx
      all_goals clear hx
      all_goals go_wp2_with fail
      all_goals refine (HF.out x).mono ?_
      all_goals rintro e w1 ⟨rfl, rfl⟩
      all_goals rw [← HX.out, HO.out]
      · go_wp2
        go_round
        case rel => exact ⟨k + 1, by omega, by go_num, any_next HK.out ha.out HO.out⟩
        case measure => simp [intOf]; omega
      · go_wp2
        go_ret
        exact ⟨ret_int (by rw [out_some HK.out HO.out ha.out]), rfl⟩
    · have hf : (-1 : Int) = outAt lo hi xs := by
        have h := ha.out
        rw [List.take_of_length_le (by rw [HL.out]; omega)] at h
        rw [out_none h]
      have HF := Lib.hid hf
      clear hf
      go_wp2
      go_ret
      exact ⟨ret_int HF.out, rfl⟩

theorem ContainsFunc_1 (q : Nat) (lo hi : Int) (A : Option Addr) (n c : Nat) (xs : List Int) (w : World) (hr : Rd w 1 A n (ints xs)) (hn : n * 8 ≤ 140737488351232)
    (hf : ∀ x : Int, Calls Try.prog 28 #[.int .i64 x, .pointer (some ⟨q, 0, none⟩)] w fun e w' => e = .returned (.bool (outB lo hi x)) ∧ w = w') :
    Calls Try.prog 27 #[.slice A n c, .func (.func 28) #[] #[.pointer (some ⟨q, 0, none⟩)]] w fun e w' => e = .returned (.bool (xs.any (outB lo hi))) ∧ w = w' := by
  have HC := Lib.hid (IndexFunc_1 q lo hi A n c xs w hr hn hf)
  clear hr hf
  go_enter Try.func27, Try.ntmps27
  go_wp2_with fail
  refine HC.out.mono ?_
  rintro e w1 ⟨rfl, rfl⟩
  go_wp2
  go_ret
  exact ⟨ret_bool (out_iff lo hi xs), rfl⟩
end Go.Proofs.Ytdofkakbfolpkaa.Sf
