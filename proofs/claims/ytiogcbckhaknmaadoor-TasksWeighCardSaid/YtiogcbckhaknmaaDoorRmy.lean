/-
  roomy (a copy of a list, with marks in its spare room) and left (is it what it was, its spare room too?). Conditions: the list reads; its length is within the reach.
-/
import Derived.Test.YtiogcbckhaknmaaDoorMake
import Derived.Deep.OwnRows
import Derived.Laws.CopyOwn
import Derived.BigQuiet
import Derived.Handy
import Derived.Deep.DeepCutAuto
namespace Go.Proofs.YtiogcbckhaknmaaDoor.Ints
open Go.RowKit Go.Proofs.YtiogcbckhaknmaaDoor.W

/-- what stands behind a roomy list -/
def marks (n : Nat) : List Int := (List.range 5).map fun j => -90 - ((n + j : Nat) : Int)
/-- what roomy has done behind k rounds -/
def rmM (l : List Int) (k : Nat) : List Int := l ++ (marks l.length).take k ++ List.replicate (5 - k) 0
theorem marks_len (n : Nat) : (marks n).length = 5 := by simp [marks]
theorem rm_len (l : List Int) {k : Nat} (hk : k ≤ 5) : (rmM l k).length = l.length + 5 := by
  have := marks_len l.length
  simp [rmM]
  omega
theorem rm_zero (l : List Int) : rmM l 0 = l ++ List.replicate 5 0 := by simp [rmM]
theorem rm_all (l : List Int) : rmM l 5 = l ++ marks l.length := by
  have := marks_len l.length
  simp [rmM, List.take_of_length_le (Nat.le_of_eq this)]
theorem rm_set (l : List Int) {k : Nat} (hk : k < 5) : (rmM l k).set (l.length + k) (-90 - ((l.length + k : Nat) : Int)) = rmM l (k + 1) := by
  have hm := marks_len l.length
  have hx : (marks l.length)[k]? = some (-90 - ((l.length + k : Nat) : Int)) := by simp [marks, List.getElem?_range hk]
  have e1 : (l ++ (marks l.length).take k).length = l.length + k := by simp; omega
  have e2 : List.replicate (5 - k) (0 : Int) = 0 :: List.replicate (5 - (k + 1)) 0 := by
    rw [show 5 - k = (5 - (k + 1)) + 1 from by omega]
    rfl
  unfold rmM
  rw [e2, List.set_append_right _ _ (by omega), e1, Nat.sub_self, List.set_cons_zero, List.take_add_one, hx]
  simp
theorem rm_at (l : List Int) {j : Nat} (hj : j < l.length + 5) : (l ++ marks l.length)[j]? = some (if j < l.length then l.getD j 0 else -90 - (j : Int)) := by
  have hm := marks_len l.length
  split
  · rename_i h
    rw [List.getElem?_append_left h, List.getD_eq_getElem?_getD, List.getElem?_eq_getElem h]
    rfl
  · rename_i h
    rw [List.getElem?_append_right (by omega)]
    simp [marks, List.getElem?_range (show j - l.length < 5 by omega)]
    omega

set_option maxRecDepth 100000 in
set_option maxHeartbeats 6400000 in
theorem roomy_any (A : Option Addr) (n c : Nat) (l : List Int) (w : World) (hr : Rd w 1 A n (ints l)) (hn : n * 8 ≤ 140737488351232) :
    Calls Tryd.prog 19 #[.slice A n c] w fun e w' => ∃ g, e = .returned (.slice (some ⟨g, 0, none⟩) n (n + 5)) ∧ w.heap.size ≤ g ∧ Blk w' g 3 (ints (l ++ marks n)).toArray ∧ Below w.heap.size w w' := by
  have hl : l.length = n := by simpa [ints] using hr.len
  have HR := Lib.hid hr
  have HL := Lib.hid hl
  clear hr hl
  obtain ⟨L, hL⟩ : ∃ L, l ++ marks n = L := ⟨_, rfl⟩
  rw [hL]
  have HLL := Lib.hid hL
  clear hL
  have hmk : (Instr.makeSlice 25 (.int .i64 ((n : Int) + 5)) (.int .i64 ((n : Int) + 5))).run Tryd.prog w = .ok (.slice (some ⟨w.heap.size, 0, none⟩) (n + 5) (n + 5)) (w.alloc (.cells (noughts (n + 5)) 3)) := by
    have h := run_make_row' (P := Tryd.prog) 25 3 (.int .i64 0) 8 Tryd.underlying25 int_info rfl .i64 .i64 (n + 5) (by omega) (by omega) w
    rw [show ((n + 5 : Nat) : Int) = (n : Int) + 5 from by omega] at h
    exact h
  have hw : IntKind.i64.wrap ((n : Int) + 5) = (n : Int) + 5 := by simp [IntKind.wrap, IntKind.bits, IntKind.signed]; omega
  have int1 : (Tryd.prog.info? 3).map (·.size) = some 1 := by kernel_rfl
  obtain ⟨g, hg⟩ : ∃ g, w.heap.size = g := ⟨_, rfl⟩
  go_enter Tryd.func19, Tryd.ntmps19
  go_upto_region 2 with fail
  obtain ⟨Y, hY⟩ : ∃ Y, Y = ints (List.replicate (n + 5) 0) := ⟨_, rfl⟩
  obtain ⟨X, hX⟩ : ∃ X, X = ints l := ⟨_, rfl⟩
  have K0 : Hid ((w.alloc (.cells (noughts (n + 5)) 3)).heap[g]? = some (.cells Y.toArray 3 (0, 0))) := by
    rw [hY, ← noughts_list, ← hg]
    exact heap_alloc_new w _
  have B0 : Hid (Below w.heap.size w (w.alloc (.cells (noughts (n + 5)) 3))) := below_alloc _
  have hXn : X.length = n := by rw [hX, HR.out.len]; omega
  have hYn : Y.length = n + 5 := by rw [hY]; simp [ints]
  generalize World.alloc _ (Obj.cells (noughts (n + 5)) _ _) = w1 at K0 B0 ⊢
  have HG := Lib.hid hg
  have HX := Lib.hid hX
  have HY := Lib.hid hY
  have HXN := Lib.hid hXn
  have HYN := Lib.hid hYn
  have HW := Lib.hid hw
  clear hg hmk hX hY hXn hYn hw
  have hgn : w.heap.size ≤ g := by rw [HG.out]; exact Nat.le_refl _
  have hmin : Nat.min n (n + 5) = n := Nat.min_eq_left (by omega)
  go_wp2_with (with_reducible refine wpList_copy_splice rfl (.tmp 9) (.tmp 10) 25 25 rfl 3 Tryd.underlying25 int1 (some ⟨g, 0, none⟩) A (n + 5) (n + 5) n c rfl rfl g 0 Y 3 K0.out X ?_ ?_ ?_ ?_ w.heap.size w B0.out hgn ?_)
  · rw [HXN.out, hmin]
  · intro h
    rw [HXN.out] at h
    obtain ⟨b, o, rfl, hc⟩ := (HR.out.below B0.out).2 h
    have hadd : ∀ j, (⟨b, o, none⟩ : Addr).add j = ⟨b, o + j, none⟩ := by intro j; unfold Addr.add; split <;> simp_all
    exact ⟨_, rfl, fun j v hv => by rw [hadd]; exact hc j v (by rw [← HX.out]; exact hv)⟩
  · rw [HXN.out, HYN.out]; omega
  · intro v hv
    rw [HX.out] at hv
    simp [ints] at hv
    obtain ⟨x, _, rfl⟩ := hv
    rfl
  intro w2 hk2 hb2
  have e2 : splice Y 0 X = ints (rmM l 0) := by
    rw [rm_zero]
    unfold splice
    rw [List.take_zero, List.nil_append, HXN.out, HX.out, HY.out, Nat.zero_add]
    simp only [ints, List.map_append, List.map_replicate, List.drop_replicate]
    rw [show n + 5 - n = 5 from by omega]
  have KB := Lib.hid (And.intro (show Blk w2 g 3 (ints (rmM l 0)).toArray from by rw [← e2]; exact hk2.out) hb2)
  clear hk2 hb2 K0 B0 e2 HX HY HXN HYN
  go_wp2
  go_loopw [4] (fun v wr => ∃ k : Nat, k ≤ 5 ∧ v = .int .i64 ((n + k : Nat) : Int) ∧ Hid (Blk wr g 3 (ints (rmM l k)).toArray) ∧ Hid (Below w.heap.size w wr)) (fun v _ => n + 5 - (intOf v).toNat)
  case atStart => exact ⟨0, by omega, by simp, KB.out.1, KB.out.2⟩
  case round =>
    clear KB
    obtain ⟨k, hk, rfl, K2, B2⟩ := hrel
    obtain ⟨i, hi⟩ : ∃ i : Nat, n + k = i := ⟨_, rfl⟩
    rw [hi]
    have HI := Lib.hid hi
    by_cases hlt : k < 5
    · have hi0 : (0 : Int) ≤ (i : Int) := by omega
      have hi1 : (i : Int) < (n : Int) + 5 := by omega
      have hi2 : i < n + 5 := by omega
      have hw2 : IntKind.i64.wrap (-90 - (i : Int)) = -90 - (i : Int) := by simp [IntKind.wrap, IntKind.bits, IntKind.signed]; omega
      have hfz : wr.frozen? ⟨g, i, none⟩ = false := K2.out.frozen i
      have hlen := rm_len l (Nat.le_of_lt hlt)
      obtain ⟨y, hy⟩ : ∃ y, (rmM l k)[i]? = some y := ⟨_, List.getElem?_eq_getElem (by rw [hlen, HL.out]; omega)⟩
      have hcell : wr.cell? ⟨g, i, none⟩ = some (.int .i64 y) := by
        rw [K2.out.cell]
        simp [ints, hy]
      have HS : Hid (Blk (wr.setCell ⟨g, i, none⟩ (.int .i64 (-90 - (i : Int)))) g 3 (ints (rmM l (k + 1))).toArray) := by
        have h := K2.out.put i (.int .i64 (-90 - (i : Int)))
        have e : (ints (rmM l k)).toArray.setIfInBounds i (.int .i64 (-90 - (i : Int))) = (ints (rmM l (k + 1))).toArray := by
          rw [← rm_set l hlt, HL.out, HI.out]
          simp [ints, List.map_set]
        rw [e] at h
        exact h
      have HBs : Hid (Below w.heap.size w (wr.setCell ⟨g, i, none⟩ (.int .i64 (-90 - (i : Int))))) := Below.setCell B2.out (by rw [HG.out]; exact Nat.le_refl _) _
      clear hi hy hlen
      go_wp2
      go_roundw
      case rel => exact ⟨k + 1, by omega, by rw [← Nat.add_assoc, HI.out]; go_num, HS, HBs⟩
      case measure => simp [intOf]; omega
    · have hk5 : k = 5 := by omega
      have hi1 : ¬ (i : Int) < (n : Int) + 5 := by omega
      have hs1 : (n : Int) ≤ (n : Int) + 5 := by omega
      have HE : Hid (Blk wr g 3 (ints L).toArray) := by
        have h := K2.out
        rw [hk5, rm_all, HL.out, HLL.out] at h
        exact h
      clear K2 hi
      go_wp2
      go_ret
      exact ⟨g, rfl, by rw [HG.out]; exact Nat.le_refl _, HE.out, B2.out⟩

set_option maxRecDepth 100000 in
set_option maxHeartbeats 6400000 in
/-- left, of a roomy list that nobody has written -/
theorem left_any (g n : Nat) (B : Option Addr) (d : Nat) (l : List Int) (w : World) (hl : Rd w 1 (some ⟨g, 0, none⟩) (n + 5) (ints (l ++ marks n))) (hr : Rd w 1 B n (ints l)) (hn : n * 8 ≤ 140737488351232) :
    Calls Tryd.prog 21 #[.slice (some ⟨g, 0, none⟩) n (n + 5), .slice B n d] w fun e w' => e = .returned (.bool true) ∧ ∃ q, w' = w.drewN q := by
  have hlen : l.length = n := by simpa [ints] using hr.len
  have HL := Lib.hid (And.intro hlen hl)
  have HR := Lib.hid hr
  clear hl hr hlen
  have hw : IntKind.i64.wrap ((n : Int) + 5) = (n : Int) + 5 := by simp [IntKind.wrap, IntKind.bits, IntKind.signed]; omega
  have hs1 : (0 : Int) ≤ (n : Int) + 5 := by omega
  go_enter Tryd.func21, Tryd.ntmps21
  go_wp2
  go_loopw [6] (fun v wr => ∃ k : Nat, k ≤ n + 5 ∧ v = .int .i64 (k : Int) ∧ ∃ q, wr = w.drewN q) (fun v _ => n + 5 - (intOf v).toNat)
  case atStart => exact ⟨0, by omega, rfl, 0, rfl⟩
  case round =>
    obtain ⟨k, hk, rfl, q, rfl⟩ := hrel
    by_cases hlt : k < n + 5
    · obtain ⟨b, o, e, hc⟩ := HL.out.2.2 (by omega)
      injection e with e
      injection e with e1 e2
      subst e1 e2
      have hat := rm_at l (j := k) (by rw [HL.out.1]; exact hlt)
      rw [HL.out.1] at hat
      have c0 := hc k (.int .i64 (if k < n then l.getD k 0 else -90 - (k : Int))) (by simp only [ints, List.getElem?_map, hat]; rfl)
      have hk0 : (0 : Int) ≤ (k : Int) := by omega
      have hk1 : (k : Int) < (n : Int) + 5 := by omega
      rw [Nat.zero_add] at c0
      by_cases hkn : k < n
      · obtain ⟨b2, o2, rfl, hc2⟩ := rd_at HR.out (by omega)
        have c1 := hc2 k hkn
        rw [if_pos hkn] at c0
        have hkn1 : (k : Int) < (n : Int) := by omega
        have hd : decide ((k : Int) < (n : Int)) = true := decide_eq_true hkn1
        have hd2 : decide ((n : Int) ≤ (k : Int)) = false := decide_eq_false (by omega)
        have hd3 : decide (n ≤ k) = false := decide_eq_false (by omega)
        generalize l.getD k 0 = x at c0 c1
        clear hc hc2 hat
        go_wp2
        go_quiet (fail)
        go_wp2
        go_roundw
        case rel => exact ⟨k + 1, by omega, by go_num, _, rfl⟩
        case measure => simp [intOf]; omega
      · rw [if_neg hkn] at c0
        have hkn1 : ¬ (k : Int) < (n : Int) := by omega
        have hd : decide ((k : Int) < (n : Int)) = false := decide_eq_false hkn1
        have hd2 : decide ((n : Int) ≤ (k : Int)) = true := decide_eq_true (by omega)
        have hw2 : IntKind.i64.wrap (-90 - (k : Int)) = -90 - (k : Int) := by simp [IntKind.wrap, IntKind.bits, IntKind.signed]; omega
        have hd3 : decide (k < n) = false := decide_eq_false hkn
        have hd4 : decide (n ≤ k) = true := decide_eq_true (by omega)
        clear hc hat
        go_wp2
        go_quiet (fail)
        go_wp2
        go_roundw
        case rel => exact ⟨k + 1, by omega, by go_num, _, rfl⟩
        case measure => simp [intOf]; omega
    · have hk1 : ¬ (k : Int) < (n : Int) + 5 := by omega
      go_wp2
      go_ret
      exact ⟨rfl, _, rfl⟩
end Go.Proofs.YtiogcbckhaknmaaDoor.Ints
