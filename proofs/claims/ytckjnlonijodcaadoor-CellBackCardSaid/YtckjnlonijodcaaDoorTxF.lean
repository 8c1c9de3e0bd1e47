/-
  The reference's ShowValue of times. No conditions but that the number fits a machine.
-/
import Derived.Test.YtckjnlonijodcaaDoorTxE
import Derived.Deep.RegionHeld3
namespace Go.Proofs.YtckjnlonijodcaaDoor.Tx
open Go.RowKit Go.Proofs.YtckjnlonijodcaaDoor.W Go.Proofs.YtckjnlonijodcaaDoor.Num Go.Proofs.YtckjnlonijodcaaDoor.Cell

def partsL (n : Nat) : List (Nat × List UInt8) := [(n / 86400000, [100]), (n / 3600000 % 24, [104]), (n / 60000 % 60, [109]), (n / 1000 % 60, [115]), (n % 1000, [109, 115])]
def tsTo (n k : Nat) : List UInt8 := [84, 35] ++ ((partsL n).take k).flatMap fun p => partF p.1 p.2
theorem ts_all (n : Nat) : timeS n = if n = 0 then [84, 35, 48, 109, 115] else tsTo n 5 := by
  unfold timeS tsTo
  by_cases h : n = 0
  · simp [h]
  · simp [h, partsL]
theorem ts_zero : tsTo 0 5 = [84, 35] := by decide
theorem ts_succ {n k : Nat} {q : Nat} {u : List UInt8} (h : (partsL n)[k]? = some (q, u)) : tsTo n (k + 1) = tsTo n k ++ partF q u := by
  unfold tsTo
  obtain ⟨hk, hx⟩ := List.getElem?_eq_some_iff.1 h
  rw [List.take_succ_eq_append_getElem hk, hx, List.flatMap_append, List.append_assoc]
  simp
theorem part_len (q : Nat) (u : List UInt8) : (partF q u).length ≤ q + 1 + u.length := by
  unfold partF
  split
  · rw [List.length_append]
    have := dec_len q
    omega
  · simp
theorem parts_at {n k : Nat} (hn : n ≤ 4294967295) (hk : k < 5) : ∃ q u, (partsL n)[k]? = some (q, u) ∧ q ≤ 4294967295 ∧ u.length ≤ 2 := by
  have : k = 0 ∨ k = 1 ∨ k = 2 ∨ k = 3 ∨ k = 4 := by omega
  rcases this with rfl | rfl | rfl | rfl | rfl
  all_goals exact ⟨_, _, rfl, by omega, by simp⟩
theorem ts_len {n : Nat} (hn : n ≤ 4294967295) : ∀ k, k ≤ 5 → (tsTo n k).length ≤ 2 + k * 4294967298
  | 0, _ => by simp [tsTo]
  | k + 1, h => by
    obtain ⟨q, u, h1, h2, h3⟩ := parts_at hn (show k < 5 by omega)
    rw [ts_succ h1, List.length_append]
    have := ts_len hn k (by omega)
    have := part_len q u
    omega
def wordsV : Array Value := #[.string (strB [100]), .string (strB [104]), .string (strB [109]), .string (strB [115]), .string (strB [109, 115])]
def partsV (n : Nat) : Array Value := #[.int .i64 ((n : Int) / 86400000), .int .i64 ((n : Int) / 3600000 % 24), .int .i64 ((n : Int) / 60000 % 60), .int .i64 ((n : Int) / 1000 % 60), .int .i64 ((n : Int) % 1000)]
theorem words_at {n k q : Nat} {u : List UInt8} (h : (partsL n)[k]? = some (q, u)) : wordsV[k]? = some (.string (strB u)) ∧ (partsV n)[k]? = some (.int .i64 (q : Int)) := by
  have hk : k < 5 := (List.getElem?_eq_some_iff.1 h).1
  have : k = 0 ∨ k = 1 ∨ k = 2 ∨ k = 3 ∨ k = 4 := by omega
  rcases this with rfl | rfl | rfl | rfl | rfl
  all_goals
    simp [partsL] at h
    obtain ⟨rfl, rfl⟩ := h
    exact ⟨rfl, rfl⟩
set_option maxRecDepth 100000 in
set_option maxHeartbeats 6400000 in
theorem show_5 (n : Nat) (w : World) (h : n ≤ 4294967295) : Calls Tryd.prog 8 #[.int .i64 5, .int .i64 (n : Int)] w fun e w' => e = .returned (.string (strB (timeS n))) ∧ Below w.heap.size w w' := by
  have hf := fun W => FitsR_any 5 (n : Int) W
  rw [show fitsF 5 (n : Int) = true from by simp [fitsF]; omega] at hf
  go_enter Tryd.func8, Tryd.ntmps8
  go_upto_region 18 with (go_at_call 26; refine (hf _).mono ?_; rintro e w9 ⟨rfl, rfl⟩)
  have k1 : Blk ((w.alloc (.cells (partsV n) 3)).alloc (.cells wordsV 9)) w.heap.size 3 (partsV n) := (Blk.new _ _ _).alloc _
  have k2 : Blk ((w.alloc (.cells (partsV n) 3)).alloc (.cells wordsV 9)) (w.heap.size + 1) 9 wordsV := by
    have := Blk.new (w.alloc (.cells (partsV n) 3)) 9 wordsV
    simpa only [World.size_alloc] using this
  have hB : Below w.heap.size w ((w.alloc (.cells (partsV n) 3)).alloc (.cells wordsV 9)) := W.below2 _ _ _
  change Code.wp _ _ _ _ ((w.alloc (.cells (partsV n) 3)).alloc (.cells wordsV 9))
  generalize (w.alloc (.cells (partsV n) 3)).alloc (.cells wordsV 9) = wa at k1 k2 hB ⊢
  have HM := Lib.hid (And.intro k1 (And.intro k2 hB))
  have HT0 : Hid (({ data := #[84, 35] } : ByteArray) = strB (tsTo n 0)) := Lib.hid rfl
  clear k1 k2 hB hf
  go_wp2
  go_loopw [6, 9] (fun s i wr => ∃ (k : Nat) (sb : ByteArray), k ≤ 5 ∧ i = .int .i64 (k : Int) ∧ s = .string sb ∧ Hid (sb = strB (tsTo n k)) ∧ Hid (Blk wr w.heap.size 3 (partsV n) ∧ Blk wr (w.heap.size + 1) 9 wordsV ∧ Below w.heap.size w wr)) (fun _ i _ => 5 - (intOf i).toNat)
  case atStart => exact ⟨0, _, by omega, rfl, rfl, HT0, HM⟩
  case round =>
    obtain ⟨k, sb, hk, rfl, rfl, HSB, HMW⟩ := hrel
    clear HM HT0
    by_cases hk5 : k < 5
    · obtain ⟨q, u, hp, hq, hu⟩ := parts_at h hk5
      obtain ⟨hw2, hw1⟩ := words_at hp
      have c1 : wr.cell? ⟨w.heap.size, k, none⟩ = some (.int .i64 (q : Int)) := by rw [HMW.out.1.cell]; exact hw1
      obtain ⟨ub, hub⟩ : ∃ ub, ub = strB u := ⟨_, rfl⟩
      have c2 : wr.cell? ⟨w.heap.size + 1, k, none⟩ = some (.string ub) := by rw [HMW.out.2.1.cell, hub]; exact hw2
      have hts := ts_succ hp
      by_cases hq0 : 0 < q
      · have hq1 : (0 : Int) < (q : Int) := by omega
        have hd := fun W => Decimal_nat q W (by omega)
        obtain ⟨db, hdb⟩ : ∃ db, db = strB (Go.Lib.decDigits q) := ⟨_, rfl⟩
        rw [← hdb] at hd
        have hl1 : db.size + ub.size ≤ 4294967300 := by rw [hdb, hub, strB_size, strB_size]; have := dec_len q; omega
        have hl2 : sb.size ≤ 4294967298 * 5 + 2 := by rw [HSB.out, strB_size]; have := ts_len h k hk; omega
        have hl3 : (db ++ ub).size ≤ 4294967300 := by rw [ByteArray.size_append]; exact hl1
        have hd4 : ¬ 9223372036854775807 < db.size + ub.size := by omega
        have hd5 : ¬ 9223372036854775807 < sb.size + (db ++ ub).size := by omega
        have hd6 : ¬ 9223372036854775807 < sb.size + (db.size + ub.size) := by omega
        have HN : Hid (sb ++ (db ++ ub) = strB (tsTo n (k + 1))) := Lib.hid (by rw [hdb, hub, HSB.out, app_str, app_str, hts]; unfold partF; rw [if_pos hq0])
        clear hp hq hu hw2 hw1 hub hts hq0 hdb hl1 hl2 hl3
        go_upto_region 22 with fail
        have sE : wr.drew.cell? ⟨w.heap.size, k, none⟩ = some (.int .i64 (q : Int)) ∧ wr.drew.cell? ⟨w.heap.size + 1, k, none⟩ = some (.string ub) := ⟨c1, c2⟩
        go_region_held3 (fun w' => w'.cell? ⟨w.heap.size, k, none⟩ = some (.int .i64 (q : Int)) ∧ w'.cell? ⟨w.heap.size + 1, k, none⟩ = some (.string ub))
          (first | exact sE | exact sF | fail)
          (first
            | (go_at_call 31
               refine (hd _).mono ?_
               rintro e w5 ⟨rfl, hb5⟩
               have sF : w5.cell? ⟨w.heap.size, k, none⟩ = some (.int .i64 (q : Int)) ∧ w5.cell? ⟨w.heap.size + 1, k, none⟩ = some (.string ub) := ⟨(hb5.cell (p := ⟨w.heap.size, k, none⟩) (lt_of_cell c1)).trans c1, (hb5.cell (p := ⟨w.heap.size + 1, k, none⟩) (lt_of_cell c2)).trans c2⟩
               have HBD : Below w.heap.size w wr.drew := W.below_drewN HMW.out.2.2 1
               have HM5 := Lib.hid (And.intro (HMW.out.1.drew.below hb5) (And.intro (HMW.out.2.1.drew.below hb5) (HBD.trans (hb5.mono HBD.size))))
               clear HBD
               clear hb5)
            | fail)
        all_goals
          go_wp2
          go_roundw
          case rel => exact ⟨k + 1, _, by omega, by go_num, rfl, HN, HM5⟩
          case measure => simp [intOf]; omega
      · have hq1 : ¬ (0 : Int) < (q : Int) := by omega
        have HN : Hid (sb = strB (tsTo n (k + 1))) := Lib.hid (by rw [HSB.out, hts]; unfold partF; rw [if_neg hq0, List.append_nil])
        clear hp hq hu hw2 hw1 hub hts hq0
        go_wp2
        go_roundw
        case rel => exact ⟨k + 1, _, by omega, by go_num, rfl, HN, HMW⟩
        case measure => simp [intOf]; omega
    · have hk6 : k = 5 := by omega
      have HS5 : Hid (sb = strB (tsTo n 5)) := Lib.hid (by rw [← hk6]; exact HSB.out)
      have hsz : sb.size ≤ 21474836492 := by rw [HS5.out, strB_size]; have := ts_len h 5 (by omega); omega
      by_cases hn0 : n = 0
      · have h0 : ((n : Int) == 0) = true := by simp; omega
        have HR : Hid (sb ++ strB [48, 109, 115] = strB (timeS n)) := Lib.hid (by rw [HS5.out, app_str, ts_all, if_pos hn0, hn0, ts_zero]; rfl)
        clear hn0 hk6
        go_wp2
        go_ret
        exact ⟨ret_str HR.out, HMW.out.2.2⟩
      · have h0 : ((n : Int) == 0) = false := by simp; omega
        have HR : Hid (sb = strB (timeS n)) := Lib.hid (by rw [HS5.out, ts_all, if_neg hn0])
        clear hn0 hk6
        go_wp2
        go_ret
        exact ⟨ret_str HR.out, HMW.out.2.2⟩
theorem ShowValue_any (k n : Int) (w : World) : Calls Tryd.prog 8 #[.int .i64 k, .int .i64 n] w fun e w' => e = .returned (.string (strB (showF k n))) ∧ Below w.heap.size w w' := by
  cases hf : fitsF k n with
  | false =>
    rw [show showF k n = [] from by unfold showF; simp [hf]]
    exact show_none k n w hf
  | true =>
    rcases kinds k with rfl | rfl | rfl | rfl | rfl | ⟨h1, h2, h3, h4, h5⟩
    · have hn : n = 0 ∨ n = 1 := by simp [fitsF] at hf; omega
      rw [show showF 1 n = if n = 0 then [70, 65, 76, 83, 69] else [84, 82, 85, 69] from by unfold showF; simp [hf]]
      exact show_1 n w hn
    · rw [show showF 2 n = Go.Lib.itoa n from by unfold showF; simp [hf]]
      exact show_2 n w hf
    · rw [show showF 3 n = Go.Lib.itoa n from by unfold showF; simp [hf]]
      exact show_3 n w hf
    · obtain ⟨m, rfl⟩ : ∃ m : Nat, n = (m : Int) := ⟨n.toNat, by simp [fitsF] at hf; omega⟩
      rw [show showF 4 (m : Int) = [49, 54, 35] ++ hexU m from by unfold showF; simp [hf]]
      exact show_4 m w (by simp [fitsF] at hf; omega)
    · obtain ⟨m, rfl⟩ : ∃ m : Nat, n = (m : Int) := ⟨n.toNat, by simp [fitsF] at hf; omega⟩
      rw [show showF 5 (m : Int) = timeS m from by unfold showF; simp [hf]]
      exact show_5 m w (by simp [fitsF] at hf; omega)
    · exfalso
      simp only [beq_eq_false_iff_ne, ne_eq] at h1 h2 h3 h4 h5
      simp [fitsF, h1, h2, h3, h4, h5] at hf
end Go.Proofs.YtckjnlonijodcaaDoor.Tx
