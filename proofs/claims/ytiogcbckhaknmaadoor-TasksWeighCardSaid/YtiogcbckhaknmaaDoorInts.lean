/-
  Contracts of the statements' own helpers on slices of ints: sameInts, over. Conditions: the slices read as lists; for over: the slice owns its row.
-/
import Derived.Test.YtiogcbckhaknmaaDoorRows
import Derived.Test.YtiogcbckhaknmaaDoorW
import Derived.Deep.QuietTactic
import Derived.BigQuiet
namespace Go.Proofs.YtiogcbckhaknmaaDoor.Ints
open Go.RowKit Go.Proofs.YtiogcbckhaknmaaDoor.W

theorem int_info : (Tryd.prog.info? 3).map (fun i => (i.zero, i.size, i.bytes)) = some (some (.int .i64 0), 1, 8) := by kernel_rfl
abbrev ints (zs : List Int) : List Value := zs.map (Value.int .i64)
theorem ints_len (zs : List Int) : (ints zs).length = zs.length := by simp
theorem rd_len {w : World} {A : Option Addr} {n : Nat} {zs : List Int} (h : Rd w 1 A n (ints zs)) : zs.length = n := by simpa using h.1
theorem rd_at {w : World} {A : Option Addr} {n : Nat} {zs : List Int} (h : Rd w 1 A n (ints zs)) (hn : 0 < n) :
    ∃ b o, A = some ⟨b, o, none⟩ ∧ ∀ j, j < n → w.cell? ⟨b, o + j, none⟩ = some (.int .i64 (zs.getD j 0)) := by
  obtain ⟨b, o, e, hc⟩ := h.2 hn
  refine ⟨b, o, e, fun j hj => hc j _ ?_⟩
  have hl := rd_len h
  simp [List.getElem?_map, List.getD_eq_getElem?_getD, List.getElem?_eq_getElem (show j < zs.length by omega)]

theorem take_next {xs ys : List Int} {k : Nat} (hx : k < xs.length) (hy : k < ys.length) (h : xs.take k = ys.take k) (he : xs.getD k 0 = ys.getD k 0) : xs.take (k + 1) = ys.take (k + 1) := by
  rw [List.take_succ_eq_append_getElem hx, List.take_succ_eq_append_getElem hy, h]
  simp [List.getD_eq_getElem?_getD, List.getElem?_eq_getElem hx, List.getElem?_eq_getElem hy] at he
  rw [he]

set_option maxHeartbeats 400000 in
theorem sameInts_eq (A B : Option Addr) (n c d : Nat) (xs ys : List Int) (w : World) (hA : Rd w 1 A n (ints xs)) (hB : Rd w 1 B n (ints ys)) (hm : n ≤ maxLen) :
    Calls Tryd.prog 8 #[.slice A n c, .slice B n d] w fun e w' => e = .returned (.bool (decide (xs = ys))) ∧ ∃ k, w' = w.drewN k := by
  unfold maxLen at hm
  have hx := rd_len hA
  have hy := rd_len hB
  have HX := Lib.hid hx
  have HY := Lib.hid hy
  clear hx hy
  have HA := Lib.hid hA
  have HB := Lib.hid hB
  clear hA hB
  go_enter Tryd.func8, Tryd.ntmps8
  go_wp2
  go_loopw [5] (fun i wr => ∃ k : Nat, k ≤ n ∧ i = .int .i64 k ∧ Hid (xs.take k = ys.take k) ∧ ∃ q, wr = w.drewN q) (fun i _ => n - (intOf i).toNat)
  case atStart => exact ⟨0, Nat.zero_le _, rfl, rfl, 0, rfl⟩
  case round =>
    obtain ⟨k, hk, rfl, ht, q, rfl⟩ := hrel
    by_cases hlt : k < n
    · obtain ⟨b, o, rfl, hc⟩ := rd_at HA.out (by omega)
      obtain ⟨b', o', rfl, hc'⟩ := rd_at HB.out (by omega)
      have h1 := hc k hlt
      have h2 := hc' k hlt
      clear hc hc'
      generalize hu : xs.getD k 0 = u at h1
      generalize hv : ys.getD k 0 = v at h2
      have HU := Lib.hid hu
      have HV := Lib.hid hv
      clear hu hv
      go_wp2
      go_quiet (fail)
      go_wp2
      · have hne : (u != v) = true := by assumption
        have hfin : false = decide (xs = ys) := by
          symm
          apply decide_eq_false
          intro he
          rw [← HU.out, ← HV.out, he] at hne
          simp at hne
        go_ret
        exact ⟨ret_bool hfin, drew2 _ _ _⟩
      · have hne : (u != v) = false := by assumption
        have he : u = v := by simpa using hne
        go_roundw
        case rel => exact ⟨k + 1, by omega, by go_num, take_next (by rw [HX.out]; exact hlt) (by rw [HY.out]; exact hlt) ht (by rw [HU.out, HV.out]; exact he), _, rfl⟩
        case measure => simp [intOf]; omega
    · have hk' : k = n := by omega
      have hfin : true = decide (xs = ys) := by
        symm
        apply decide_eq_true
        have h := ht.out
        rwa [List.take_of_length_le (by rw [HX.out]; omega), List.take_of_length_le (by rw [HY.out]; omega)] at h
      have HF := Lib.hid hfin
      clear hfin
      go_wp2
      go_ret
      exact ⟨ret_bool HF.out, _, rfl⟩

theorem sameInts_ne (A B : Option Addr) (n m c d : Nat) (w : World) (h : n ≠ m) :
    Calls Tryd.prog 8 #[.slice A n c, .slice B m d] w fun e w' => e = .returned (.bool false) ∧ ∃ k, w' = w.drewN k := by
  have hb : ((n : Int) != (m : Int)) = true := by simp; omega
  go_enter Tryd.func8, Tryd.ntmps8
  go_wp2
  go_ret
  exact ⟨rfl, 0, rfl⟩

/-- sameInts answers whether the two lists are one; it only reads. -/
theorem sameInts_any (A B : Option Addr) (n m c d : Nat) (xs ys : List Int) (w : World) (hA : Rd w 1 A n (ints xs)) (hB : Rd w 1 B m (ints ys)) (hm : n ≤ maxLen) :
    Calls Tryd.prog 8 #[.slice A n c, .slice B m d] w fun e w' => e = .returned (.bool (decide (xs = ys))) ∧ ∃ k, w' = w.drewN k := by
  by_cases h : n = m
  · subst h
    exact sameInts_eq A B n c d xs ys w hA hB hm
  · refine (sameInts_ne A B n m c d w h).mono ?_
    rintro e w' ⟨rfl, hw⟩
    refine ⟨ret_bool ?_, hw⟩
    symm
    apply decide_eq_false
    intro he
    exact h (by rw [← rd_len hA, ← rd_len hB, he])

set_option maxHeartbeats 400000 in
set_option maxRecDepth 100000 in
/-- over writes over its slice's elements and behind them: nothing else turns but its own row. -/
theorem over_any (base : Nat) (A : Option Addr) (n c : Nat) (mark : Int) (xs : List Value) (w : World) (ho : w.ownsRow base 3 1 (.slice A n c) n xs) (hb : base ≤ w.heap.size) (hn : n * 8 ≤ 140737488351232) :
    Calls Tryd.prog 11 #[.slice A n c, .int .i64 mark] w fun e w' => e = .returned (.tuple #[]) ∧ w.grownBy w' (Value.slice A n c).ownBlock := by
  obtain ⟨i0, hi0, hz0, hz1, hz2⟩ := info_parts int_info
  have HO := Lib.hid ho
  clear ho
  go_enter Tryd.func11, Tryd.ntmps11
  go_wp2
  go_loopw [4] (fun i wr => ∃ k : Nat, k ≤ n ∧ i = .int .i64 k ∧ (∃ ys, wr.ownsRow base 3 1 (.slice A n c) n ys) ∧ Hid (w.grownBy wr (Value.slice A n c).ownBlock)) (fun i _ => n - (intOf i).toNat)
  case atStart => exact ⟨0, Nat.zero_le _, rfl, ⟨_, HO.out⟩, Grow.refl _ _⟩
  case round =>
    obtain ⟨k, hk, rfl, ⟨ys, hy⟩, hg⟩ := hrel
    by_cases hlt : k < n
    · obtain ⟨g, rfl, hbg, hgl⟩ := own_head hy (by omega)
      have hcell : ∃ u, wr.cell? ⟨g, k, none⟩ = some u := by
        rw [hy.cellAt k (by omega)]
        have := hy.1
        exact ⟨_, List.getElem?_eq_getElem (by omega)⟩
      obtain ⟨u, hu⟩ := hcell
      have hfz := hy.frozenAt k
      obtain ⟨h1, h2⟩ := hy.stored k (.int .i64 mark)
      have HY := Lib.hid hy
      have H1 := Lib.hid h1
      have H2 := Lib.hid h2
      clear hy h1 h2
      go_wp2
      go_roundw
      case rel => exact ⟨k + 1, by omega, by go_num, ⟨_, H1.out⟩, Grow.trans hg.out H2.out (fun _ _ => .inl rfl)⟩
      case measure => simp [intOf]; omega
    · have hk' : n ≤ k := by omega
      have hsz := hg.out.size
      have hrow : ∀ x, (Value.slice A n c).ownBlock = some x → some x = (Value.slice A n c).ownBlock ∨ w.heap.size ≤ x := fun x hx => .inl hx.symm
      have HR := Lib.hid hrow
      clear hrow
      go_wp2
      obtain ⟨wo, hwo⟩ : ∃ wo : World, wo = wr := ⟨_, rfl⟩
      subst hwo
      go_loopw [0, 5] (fun v i wr2 => ∃ j : Nat, j ≤ 20 ∧ i = .int .i64 j ∧ (∃ ys, wr2.ownsRow base 3 1 v (n + j) ys) ∧ Hid (w.grownBy wr2 (Value.slice A n c).ownBlock) ∧
        Hid (∀ x, v.ownBlock = some x → some x = (Value.slice A n c).ownBlock ∨ w.heap.size ≤ x)) (fun _ i _ => 20 - (intOf i).toNat)
      case atStart => exact ⟨0, by omega, rfl, ⟨_, hy⟩, hg, HR⟩
      case round =>
        clear hy HR hsz
        obtain ⟨j, hj, rfl, ⟨zs, hz⟩, hg2, hv2⟩ := hrel
        have hsz2 := hg2.out.size
        by_cases hlt2 : j < 20
        · go_wp2_with (at_builtin; refine wpList_append_rd _ rfl (.tmp 20) (.tmp 22) 25 rfl base 3 i0 _ 1 8 Tryd.underlying25 hi0 hz0 hz1 hz2 rfl (by omega) _ (n + j) zs rfl (hz.alloc _) _ 1 1 [.int .i64 mark] rfl (rd_new _ _ _) ?_ ?_ ?_ ?_ ?_)
          · simp [Value.oneCell']
          · unfold maxLen; omega
          · omega
          · simp; omega
          · intro v' w1 ho1 hg1 hat1
            have HO1 := Lib.hid ho1
            have HG1 := Lib.hid hg1
            have HA1 := Lib.hid hat1
            clear ho1 hg1 hat1 hz
            go_wp2
            go_roundw
            case rel =>
              refine ⟨j + 1, by omega, by go_num, ⟨_, HO1.out⟩, ?_, ?_⟩
              · exact Grow.trans (Grow.trans hg2.out (World.grownBy_alloc _ _ none) (fun x hx => by cases hx)) HG1.out (fun x hx => (hv2.out x hx).imp (fun h => hx.trans h) id)
              · intro x hx
                rcases HA1.out with h | h
                · exact hv2.out x (by rw [← h]; exact hx)
                · rw [h] at hx
                  injection hx with hx
                  right
                  have : wr.heap.size ≤ x := by rw [← hx]; simp
                  omega
            case measure => simp [intOf]; omega
        · go_wp2
          go_end0
          exact ⟨rfl, hg2.out⟩
end Go.Proofs.YtiogcbckhaknmaaDoor.Ints
