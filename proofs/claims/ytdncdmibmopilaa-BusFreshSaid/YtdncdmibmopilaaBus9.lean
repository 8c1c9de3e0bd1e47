/-
  Which links may be, the reference's CouldBe where all but the words' sameness holds. Conditions: the words read, within the reach.
-/
import Derived.Test.YtdncdmibmopilaaBus8
namespace Go.Proofs.Ytdncdmibmopilaa.Bus
open Go.RowKit Go.Proofs.Ytdncdmibmopilaa.W Go.Proofs.Ytdncdmibmopilaa.Ints

abbrev linkC (st wt : Int) (safe words : Value) (seq age : Int) (fresh : Bool) : Array Value := #[.int .i64 st, .int .i64 wt, safe, words, .int .i64 seq, .int .i64 age, .bool fresh]

set_option maxHeartbeats 3200000 in
theorem CouldBe_true (st wt : Int) (A : Option Addr) (n c : Nat) (B : Option Addr) (d : Nat) (seq age : Int) (xs ys : List Int) (w : World)
    (hx : Rd w 1 A n (ints xs)) (hn : n * 8 ≤ 140737488351232) (hy : Rd w 1 B n (ints ys)) 
    (h1 : ((linkedF st wt xs).2 != 0) = false) (h2 : (speltE ys != 0) = false) (h4 : 0 ≤ seq) (h5 : seq ≤ 255) (h6 : 0 ≤ age) (h7 : age < wt) :
    Calls Try.prog 42 #[linkV st wt (.slice A n c) (.slice B n d) seq age true] w fun e w' => e = .returned (.bool true) ∧ Below w.heap.size w w' := by
  have HX := Lib.hid hx
  have HY := Lib.hid hy
  clear hx hy
  generalize hF : linkedF st wt xs = F at h1
  generalize hE : speltE ys = E at h2
  have HF := Lib.hid hF
  have HE := Lib.hid hE
  clear hF hE
  go_enter Try.func42, Try.ntmps42
  go_wp2_with fail
  refine (Linked_any st wt A n c xs _ (HX.out.alloc _) hn).mono ?_
  intro e w1 hf
  rw [HF.out] at hf
  obtain ⟨A1, e1, A2, e2, rfl, hb⟩ := fresh_fault hf
  clear hf
  obtain ⟨k1, hb', z1⟩ := call1 hb
  have c1 := k1.cell
  have B1 := Lib.hid hb'
  have K1 := Lib.hid k1
  clear k1 hb hb'
  go_wp2_with fail
  refine (spelt_any B n d ys _ ((HY.out.below B1.out).alloc _) (by unfold maxLen; omega)).mono ?_
  rintro e w' ⟨rfl, rfl⟩
  rw [HE.out]
  go_wp2
  generalize hw2 : w1.alloc _ = w2
  have k2 : Blk w2 w.heap.size 24 (linkC st wt (.slice A n c) (.slice B n d) seq age true) := by rw [← hw2]; exact K1.out.alloc _
  have c2 := k2.cell
  have B2 : Hid (Below w.heap.size w w2) := by rw [← hw2]; exact B1.out.alloc (by omega) _
  clear hw2 c1 B1 z1 k2 K1
  go_loopw [5] (fun i wr => ∃ k : Nat, k ≤ n ∧ i = .int .i64 k ∧ ∃ q, wr = w2.drewN q) (fun i _ => n - (intOf i).toNat)
  case atStart => exact ⟨0, Nat.zero_le _, rfl, 0, rfl⟩
  case round =>
    obtain ⟨k, hk, rfl, q, rfl⟩ := hrel
    by_cases hlt : k < n
    · go_wp2
      go_quiet (fail)
      go_wp2
      go_roundw
      case rel => exact ⟨k + 1, by omega, by go_num, _, rfl⟩
      case measure => simp [intOf]; omega
    · go_wp2
      go_ret
      exact ⟨rfl, below_drewN B2.out _⟩

set_option maxHeartbeats 3200000 in
theorem CouldBe_false (st wt : Int) (A : Option Addr) (n c : Nat) (B : Option Addr) (d : Nat) (seq age : Int) (xs ys : List Int) (w : World)
    (hx : Rd w 1 A n (ints xs)) (hn : n * 8 ≤ 140737488351232) (hy : Rd w 1 B n (ints ys)) 
    (h1 : ((linkedF st wt xs).2 != 0) = false) (h2 : (speltE ys != 0) = false) (h4 : 0 ≤ seq) (h5 : seq ≤ 255) (h6 : 0 ≤ age) (h7 : age < wt) :
    Calls Try.prog 42 #[linkV st wt (.slice A n c) (.slice B n d) seq age false] w fun e w' => e = .returned (.bool ((age == 0) && decide (ys = xs))) ∧ Below w.heap.size w w' := by
  have HLX := Lib.hid (rd_len hx)
  have HLY := Lib.hid (rd_len hy)
  have HX := Lib.hid hx
  have HY := Lib.hid hy
  clear hx hy
  generalize hF : linkedF st wt xs = F at h1
  generalize hE : speltE ys = E at h2
  have HF := Lib.hid hF
  have HE := Lib.hid hE
  clear hF hE
  go_enter Try.func42, Try.ntmps42
  go_wp2_with fail
  refine (Linked_any st wt A n c xs _ (HX.out.alloc _) hn).mono ?_
  intro e w1 hf
  rw [HF.out] at hf
  obtain ⟨A1, e1, A2, e2, rfl, hb⟩ := fresh_fault hf
  clear hf
  obtain ⟨k1, hb', z1⟩ := call1 hb
  have c1 := k1.cell
  have B1 := Lib.hid hb'
  have K1 := Lib.hid k1
  clear k1 hb hb'
  go_wp2_with fail
  refine (spelt_any B n d ys _ ((HY.out.below B1.out).alloc _) (by unfold maxLen; omega)).mono ?_
  rintro e w' ⟨rfl, rfl⟩
  rw [HE.out]
  go_wp2
  generalize hw2 : w1.alloc _ = w2
  have k2 : Blk w2 w.heap.size 24 (linkC st wt (.slice A n c) (.slice B n d) seq age false) := by rw [← hw2]; exact K1.out.alloc _
  have c2 := k2.cell
  have B2 : Hid (Below w.heap.size w w2) := by rw [← hw2]; exact B1.out.alloc (by omega) _
  have HX2 := Lib.hid (HX.out.below B2.out)
  have HY2 := Lib.hid (HY.out.below B2.out)
  clear hw2 c1 B1 z1 k2 K1 HX HY
  go_loopw [5] (fun i wr => ∃ k : Nat, k ≤ n ∧ i = .int .i64 k ∧ Hid (ys.take k = xs.take k) ∧ ∃ q, wr = w2.drewN q) (fun i _ => n - (intOf i).toNat)
  case atStart => exact ⟨0, Nat.zero_le _, rfl, by simp [Hid], 0, rfl⟩
  case round =>
    obtain ⟨k, hk, rfl, ht, q, rfl⟩ := hrel
    by_cases hlt : k < n
    · obtain ⟨b, o, rfl, hc⟩ := rd_at HX2.out (by omega)
      obtain ⟨b', o', rfl, hc'⟩ := rd_at HY2.out (by omega)
      have g1 := hc k hlt
      have g2 := hc' k hlt
      clear hc hc'
      generalize hu : xs.getD k 0 = u at g1
      generalize hv : ys.getD k 0 = v at g2
      have HU := Lib.hid hu
      have HV := Lib.hid hv
      clear hu hv
      go_wp2
      go_quiet (fail)
      go_wp2
      · have hne : (v != u) = true := by assumption
        have hfin : false = ((age == 0) && decide (ys = xs)) := by
          symm
          rw [Bool.and_eq_false_iff]
          right
          apply decide_eq_false
          intro he
          rw [← HU.out, ← HV.out, he] at hne
          simp at hne
        go_ret
        exact ⟨ret_bool hfin, below_drewN (below_drewN B2.out _) _⟩
      · have hne : (v != u) = false := by assumption
        have he : v = u := by simpa using hne
        go_roundw
        case rel => exact ⟨k + 1, by omega, by go_num, take_next (by rw [HLY.out]; exact hlt) (by rw [HLX.out]; exact hlt) ht (by rw [HU.out, HV.out]; exact he), _, rfl⟩
        case measure => simp [intOf]; omega
    · have hfin : (age == 0) = ((age == 0) && decide (ys = xs)) := by
        have h := ht.out
        rw [List.take_of_length_le (by rw [HLY.out]; omega), List.take_of_length_le (by rw [HLX.out]; omega)] at h
        simp [h]
      have HF := Lib.hid hfin
      clear hfin
      go_wp2
      go_ret
      exact ⟨ret_bool HF.out, below_drewN B2.out _⟩

/-- the reference's CouldBe -/
theorem CouldBe_any (st wt : Int) (A : Option Addr) (n c : Nat) (B : Option Addr) (m d : Nat) (seq age : Int) (fresh : Bool) (xs ys : List Int) (w : World)
    (hx : Rd w 1 A n (ints xs)) (hn : n * 8 ≤ 140737488351232) (hy : Rd w 1 B m (ints ys)) (hm : m * 8 ≤ 140737488351232) :
    Calls Try.prog 42 #[linkV st wt (.slice A n c) (.slice B m d) seq age fresh] w fun e w' => e = .returned (.bool (couldB st wt xs ys seq age fresh)) ∧ Below w.heap.size w w' := by
  by_cases h : (linkedF st wt xs).2 = 0 ∧ speltE ys = 0 ∧ m = n ∧ 0 ≤ seq ∧ seq ≤ 255 ∧ 0 ≤ age ∧ age < wt
  · obtain ⟨h1, h2, rfl, h4, h5, h6, h7⟩ := h
    cases fresh
    · refine (CouldBe_false st wt A m c B d seq age xs ys w hx hn hy (by simp [h1]) (by simp [h2]) h4 h5 h6 h7).mono ?_
      rintro e w' ⟨rfl, hb⟩
      refine ⟨ret_bool ?_, hb⟩
      have e1 := rd_len hx
      have e2 := rd_len hy
      simp [couldB, h1, h2, h4, h5, h6, h7, e1, e2]
    · refine (CouldBe_true st wt A m c B d seq age xs ys w hx hn hy (by simp [h1]) (by simp [h2]) h4 h5 h6 h7).mono ?_
      rintro e w' ⟨rfl, hb⟩
      refine ⟨ret_bool ?_, hb⟩
      have e1 := rd_len hx
      have e2 := rd_len hy
      simp [couldB, h1, h2, h4, h5, h6, h7, e1, e2]
  · obtain ⟨h1, h2⟩ := no_way (fresh := fresh) (rd_len hx) (rd_len hy) h
    refine (CouldBe_no st wt A n c B m d seq age fresh xs ys w hx hn hy hm h1).mono ?_
    rintro e w' ⟨rfl, hb⟩
    exact ⟨ret_bool h2.symm, hb⟩
end Go.Proofs.Ytdncdmibmopilaa.Bus
