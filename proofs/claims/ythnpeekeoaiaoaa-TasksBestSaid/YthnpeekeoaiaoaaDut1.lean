/-
  The tasks that the statements make of raw numbers. Conditions: the raw numbers read.
-/
import Derived.Test.YthnpeekeoaiaoaaKeep1
import Derived.Test.YthnpeekeoaiaoaaRecs
import Derived.Test.YthnpeekeoaiaoaaMem
import Derived.Test.YthnpeekeoaiaoaaTask8
import Derived.Test.YthnpeekeoaiaoaaApl
import Derived.Deep.RegionHeld3
import Derived.Deep.DeepCutAuto
namespace Go.Proofs.Ythnpeekeoaiaoaa.Task
open Go.RowKit Go.Proofs.Ythnpeekeoaiaoaa.W Go.Proofs.Ythnpeekeoaiaoaa.Ints Go.Proofs.Ythnpeekeoaiaoaa.Keep

/-- a task by raw numbers -/
structure DU where
  per : Int
  cost : Int
  dead : Int
  off : Int
def DU.cs (d : DU) : List Value := [.int .i64 d.per, .int .i64 d.cost, .int .i64 d.dead, .int .i64 d.off]
theorem DU.len (d : DU) : d.cs.length = 4 := rfl
def DU.ok (d : DU) : Prop := (-9223372036854775808 ≤ d.per ∧ d.per ≤ 9223372036854775807) ∧ (-9223372036854775808 ≤ d.cost ∧ d.cost ≤ 9223372036854775807) ∧ (-9223372036854775808 ≤ d.dead ∧ d.dead ≤ 9223372036854775807) ∧ (-9223372036854775808 ≤ d.off ∧ d.off ≤ 9223372036854775807)
abbrev duV (l : List DU) : List Value := l.flatMap DU.cs
def dutyF (idle : Bool) (d : DU) : TD :=
  ⟨ByteArray.empty, 3 + pickN d.per 38, if idle then 0 else pickN d.off 40, 1 + pickN d.cost (1 + (3 + pickN d.per 38) / 3),
    1 + pickN d.cost (1 + (3 + pickN d.per 38) / 3) + pickN d.dead (3 + pickN d.per 38 - (1 + pickN d.cost (1 + (3 + pickN d.per 38) / 3)) + 1)⟩
def dutiesF (l : List DU) (most : Nat) (idle : Bool) : List TD := ⟨ByteArray.empty, 4, 0, 1, 4⟩ :: (l.take most).map (dutyF idle)
theorem duty_ok (idle : Bool) (d : DU) : (dutyF idle d).okB = true ∧ (dutyF idle d).per ≤ 40 ∧ (dutyF idle d).off < 40 ∧ (idle = true → (dutyF idle d).off = 0) := by
  have h1 := pick_lt (n := d.per) (show (0 : Int) < 38 by omega)
  have h4 := pick_lt (n := d.off) (show (0 : Int) < 40 by omega)
  unfold dutyF
  generalize pickN d.per 38 = p at *
  have h2 := pick_lt (n := d.cost) (m := 1 + (3 + p) / 3) (by omega)
  generalize pickN d.cost (1 + (3 + p) / 3) = c at *
  have h3 := pick_lt (n := d.dead) (m := 3 + p - (1 + c) + 1) (by omega)
  generalize pickN d.dead (3 + p - (1 + c) + 1) = e at *
  cases idle
  · refine ⟨?_, by simp only; omega, ?_, by simp⟩
    · simp [TD.okB]; omega
    · simp; omega
  · refine ⟨?_, by simp only; omega, ?_, by simp⟩
    · simp [TD.okB]; omega
    · simp
theorem duties_ok (l : List DU) (most : Nat) (idle : Bool) : (dutiesF l most idle).all TD.okB = true := by
  simp only [dutiesF, List.all_cons, Bool.and_eq_true]
  refine ⟨by decide, ?_⟩
  rw [List.all_eq_true]
  intro t ht
  obtain ⟨d, _, rfl⟩ := List.mem_map.1 ht
  exact (duty_ok idle d).1
theorem duties_idle (l : List DU) (most : Nat) : ∀ t ∈ dutiesF l most true, t.off = 0 := by
  intro t ht
  rcases List.mem_cons.1 ht with rfl | ht
  · rfl
  · obtain ⟨d, _, rfl⟩ := List.mem_map.1 ht
    exact (duty_ok true d).2.2.2 rfl
theorem duties_len (l : List DU) (most : Nat) (idle : Bool) : (dutiesF l most idle).length = min most l.length + 1 := by simp [dutiesF]

theorem du_at {w : World} {A : Option Addr} {n : Nat} {X : List DU} (h : Rd w 4 A n (duV X)) {k : Nat} (hk : k < n) :
    ∃ b o s, A = some ⟨b, o, none⟩ ∧ X[k]? = some s ∧ b < w.heap.size ∧ w.cell? ⟨b, o + k * 4, none⟩ = some (.int .i64 s.per) ∧ w.cell? ⟨b, o + k * 4 + 1, none⟩ = some (.int .i64 s.cost) ∧ w.cell? ⟨b, o + k * 4 + 2, none⟩ = some (.int .i64 s.dead) ∧ w.cell? ⟨b, o + k * 4 + 3, none⟩ = some (.int .i64 s.off) := by
  have hl := Rd.rec_len DU.len (by omega) h
  obtain ⟨b, o, e, hc⟩ := Rd.rec DU.len h (by omega)
  have ht : X[k]? = some X[k] := List.getElem?_eq_getElem (by omega)
  have c := hc k _ ht
  have c0 := c 0 _ rfl
  refine ⟨b, o, X[k], e, ht, lt_of_cell c0, c0, ?_, ?_, ?_⟩
  · rw [Nat.add_assoc]; exact c 1 _ rfl
  · rw [Nat.add_assoc]; exact c 2 _ rfl
  · rw [Nat.add_assoc]; exact c 3 _ rfl
theorem rd_new5 (w : World) (t : TypeId) (x : TD) : Rd (w.alloc (.cells #[.string x.name, .int .i64 x.per, .int .i64 x.off, .int .i64 x.cost, .int .i64 x.dead] t)) 5 (some ⟨w.heap.size, 0, none⟩) 1 x.cs := by
  refine ⟨rfl, fun _ => ⟨_, _, rfl, fun j x hx => ?_⟩⟩
  rw [Nat.zero_add, (Blk.new w t _).cell]
  simpa [TD.cs] using hx

theorem rd_box {w : World} {g : Nat} {ty : TypeId} {cs : Array Value} (h : Blk w g ty cs) : Rd w cs.size (some ⟨g, 0, none⟩) 1 cs.toList := by
  refine ⟨by simp, fun _ => ⟨_, _, rfl, fun j x hx => ?_⟩⟩
  rw [Nat.zero_add, h.cell]
  simpa using hx
theorem duties_next (l : List DU) (idle : Bool) {k : Nat} {d : DU} (h : l[k]? = some d) : dutiesF l (k + 1) idle = dutiesF l k idle ++ [dutyF idle d] := by
  obtain ⟨h1, h2⟩ := List.getElem?_eq_some_iff.1 h
  simp only [dutiesF]
  rw [List.take_succ_eq_append_getElem h1, h2]
  simp

set_option maxRecDepth 100000 in
set_option maxHeartbeats 6400000 in
theorem duties_any (A : Option Addr) (n c most : Nat) (l : List DU) (idle : Bool) (w : World) (hr : Rd w 4 A n (duV l)) (hd : ∀ d ∈ l, d.ok) (hm : most ≤ 16) :
    Calls Try.prog 15 #[.slice A n c, .int .i64 most, .bool idle] w fun e w' => ∃ A' c', e = .returned (.slice A' (dutiesF l most idle).length c') ∧
      w'.ownsRow w.heap.size 42 5 (.slice A' (dutiesF l most idle).length c') (dutiesF l most idle).length (tasksV (dutiesF l most idle)) ∧ Below w.heap.size w w' := by
  obtain ⟨i0, hi0, hz0, hz1, hz2⟩ := info_parts task_info
  have hl := Rd.rec_len DU.len (by omega) hr
  have HR := Lib.hid hr
  have HD := Lib.hid hd
  clear hr hd
  go_enter Try.func15, Try.ntmps15
  go_wp2
  have M0 : Hid (∃ Ks, Mem w (w.alloc (.cells #[.string ByteArray.empty, .int .i64 4, .int .i64 0, .int .i64 1, .int .i64 4] 42)) Ks [⟨42, 5, some ⟨w.heap.size, 0, none⟩, 1, 1, tasksV (dutiesF l 0 idle)⟩]) := by
    have h := World.ownsRow_lit (base := w.heap.size) (e := 42) (size := 5) w #[.string ByteArray.empty, .int .i64 4, .int .i64 0, .int .i64 1, .int .i64 4] 1 (Nat.le_refl _) (by unfold maxLen; omega) rfl
    exact ⟨[], (Mem.start w).made (below_alloc _) h⟩
  go_loopw [7, 8] (fun o i wr => ∃ k : Nat, k ≤ n ∧ k ≤ most ∧ i = .int .i64 k ∧ ∃ A' c', o = .slice A' (k + 1) c' ∧ ∃ Ks, Hid (Mem w wr Ks [⟨42, 5, A', k + 1, c', tasksV (dutiesF l k idle)⟩])) (fun _ i _ => n - (intOf i).toNat)
  case atStart =>
    obtain ⟨Ks, h⟩ := M0.out
    exact ⟨0, Nat.zero_le _, Nat.zero_le _, rfl, _, _, rfl, Ks, h⟩
  case round =>
    clear M0
    obtain ⟨k, hk, hk', rfl, A', c', rfl, Ks, HM⟩ := hrel
    by_cases hlt : k < n ∧ k < most
    · obtain ⟨hl1, hl2⟩ := hlt
      obtain ⟨b, o, d, rfl, hs, hbl, d0, d1, d2, d3⟩ := du_at (HR.out.below HM.out.bel) hl1
      obtain ⟨⟨r1, r2⟩, ⟨r3, r4⟩, ⟨r5, r6⟩, ⟨r7, r8⟩⟩ := HD.out d (List.mem_of_getElem? hs)
      have hnx := duties_next l idle hs
      have hdt : dutyF idle d = dutyF idle d := rfl
      have hk0 : (0 : Int) ≤ (k : Int) := by omega
      have hkn : (k : Int) < (n : Int) := by omega
      have hkm : (k : Int) < (most : Int) := by omega
      have HS := Lib.hid hs
      have HN := Lib.hid hnx
      clear hs hnx hdt
      go_wp2_with fail
      refine (picked_any d.per 38 _ r1 r2 (by omega) (by omega)).mono ?_
      rintro e w1 ⟨rfl, rfl⟩
      obtain ⟨p1, p2⟩ := pick_lt (n := d.per) (show (0 : Int) < 38 by omega)
      generalize hp : pickN d.per 38 = p at p1 p2 ⊢
      have HP := Lib.hid hp
      clear hp
      go_wp2_with fail
      refine (picked_any d.cost (1 + (3 + p) / 3) _ r3 r4 (by omega) (by omega)).mono ?_
      rintro e w2 ⟨rfl, rfl⟩
      obtain ⟨q1, q2⟩ := pick_lt (n := d.cost) (m := 1 + (3 + p) / 3) (by omega)
      generalize hq : pickN d.cost (1 + (3 + p) / 3) = q at q1 q2 ⊢
      have HQ := Lib.hid hq
      clear hq
      obtain ⟨e1, e2⟩ := pick_lt (n := d.dead) (m := 3 + p - (1 + q) + 1) (by omega)
      obtain ⟨f1, f2⟩ := pick_lt (n := d.off) (m := 40) (by omega)
      generalize he : pickN d.dead (3 + p - (1 + q) + 1) = x at e1 e2
      generalize hf : pickN d.off 40 = y at f1 f2
      have HE := Lib.hid he
      have HF := Lib.hid hf
      clear he hf
      go_upto_region 7 with fail
      have hw1 : IntKind.i64.wrap (IntKind.i64.wrap (3 + p - (1 + q)) + 1) = 3 + p - (1 + q) + 1 := by simp [IntKind.wrap, IntKind.bits, IntKind.signed]; omega
      have hw2 : IntKind.i64.wrap (1 + q + x) = 1 + q + x := by simp [IntKind.wrap, IntKind.bits, IntKind.signed]; omega
      have h5 : (0 : Int) < 40 := by omega
      have h6 : (40 : Int) ≤ 9223372036854775807 := by omega
      have h7 : 0 < 3 + p - (1 + q) + 1 := by omega
      have h8 : 3 + p - (1 + q) + 1 ≤ 9223372036854775807 := by omega
      have dk : ∀ w', Below w2.heap.size w2 w' → w'.cell? ⟨b, o + k * 4 + 2, none⟩ = some (.int .i64 d.dead) ∧ w'.cell? ⟨b, o + k * 4 + 3, none⟩ = some (.int .i64 d.off) := fun w' h => ⟨(h.cell hbl).trans d2, (h.cell hbl).trans d3⟩
      go_region_held3 (fun w' => w'.cell? ⟨b, o + k * 4 + 2, none⟩ = some (.int .i64 d.dead) ∧ w'.cell? ⟨b, o + k * 4 + 3, none⟩ = some (.int .i64 d.off)) (first | exact ⟨d2, d3⟩ | exact dk _ (below_alloc _) | exact dk _ (below_drewN (below_alloc _) 1))
        (first | (go_at_call_of 27 (Value.int .i64 d.dead); (try rw [hw1]); refine (picked_any d.dead (3 + p - (1 + q) + 1) _ r5 r6 h7 h8).mono ?_; rintro e w' ⟨rfl, rfl⟩; rw [HE.out]) | (go_at_call_of 27 (Value.int .i64 d.off); refine (picked_any d.off 40 _ r7 r8 h5 h6).mono ?_; rintro e w' ⟨rfl, rfl⟩; rw [HF.out]))
      all_goals clear h5 h6 h7 h8 hw1 hw2 dk d0 d1 d2 d3 hbl
      all_goals cases idle
      all_goals first
        | (
          have hnx : Hid (tasksV (dutiesF l k false) ++ [.string ByteArray.empty, .int .i64 (3 + p), .int .i64 y, .int .i64 (1 + q), .int .i64 (1 + q + x)] = tasksV (dutiesF l (k + 1) false)) := by
            rw [Hid, HN.out, tasksV, tasksV, List.flatMap_append]
            congr 1
            simp [TD.cs, dutyF, HP.out, HQ.out, HE.out, HF.out]
          have M3 := Lib.hid (((HM.out.alloc 42 #[.string ByteArray.empty, .int .i64 (3 + p), .int .i64 y, .int .i64 (1 + q), .int .i64 (1 + q + x)]).alloc 42 #[.string ByteArray.empty, .int .i64 (3 + p), .int .i64 y, .int .i64 (1 + q), .int .i64 (1 + q + x)]).drew)
          simp only [World.size_alloc] at M3
          have hz := M3.out.base
          go_wp2_with (at_builtin; refine wpList_append_rd _ rfl (.tmp 65) (.tmp 67) 22 rfl w.heap.size 42 i0 _ 5 48 Try.underlying22 hi0 hz0 hz1 hz2 rfl (by omega) _ (k + 1) (tasksV (dutiesF l k false)) rfl (M3.out.rowO 0 rfl) _ 1 1 [.string ByteArray.empty, .int .i64 (3 + p), .int .i64 y, .int .i64 (1 + q), .int .i64 (1 + q + x)] rfl (rd_box (M3.out.blkK 0 rfl)) ?_ ?_ ?_ ?_ ?_)
          · intro u hu
            simp at hu
            rcases hu with rfl | rfl | rfl | rfl | rfl <;> rfl
          · unfold maxLen; omega
          · omega
          · exact hz
          intro v6 w6 ho6 hg6 hat6
          rw [hnx.out] at ho6
          obtain ⟨A6, c6, rfl, _⟩ := own_shape ho6
          have M6 := Lib.hid (M3.out.grow hg6 ho6 (by simpa using hat6))
          clear ho6 hg6 hat6 M3 HM
          go_wp2
          go_roundw
          case rel => exact ⟨k + 1, by omega, by omega, by go_num, A6, c6, rfl, _, M6⟩
          case measure => simp [intOf]; omega)
        | (
          have hnx : Hid (tasksV (dutiesF l k true) ++ [.string ByteArray.empty, .int .i64 (3 + p), .int .i64 0, .int .i64 (1 + q), .int .i64 (1 + q + x)] = tasksV (dutiesF l (k + 1) true)) := by
            rw [Hid, HN.out, tasksV, tasksV, List.flatMap_append]
            congr 1
            simp [TD.cs, dutyF, HP.out, HQ.out, HE.out]
          have M3 := Lib.hid (((HM.out.alloc 42 #[.string ByteArray.empty, .int .i64 (3 + p), .int .i64 0, .int .i64 (1 + q), .int .i64 (1 + q + x)]).alloc 42 #[.string ByteArray.empty, .int .i64 (3 + p), .int .i64 0, .int .i64 (1 + q), .int .i64 (1 + q + x)]).drew)
          simp only [World.size_alloc] at M3
          have hz := M3.out.base
          go_wp2_with (at_builtin; refine wpList_append_rd _ rfl (.tmp 65) (.tmp 67) 22 rfl w.heap.size 42 i0 _ 5 48 Try.underlying22 hi0 hz0 hz1 hz2 rfl (by omega) _ (k + 1) (tasksV (dutiesF l k true)) rfl (M3.out.rowO 0 rfl) _ 1 1 [.string ByteArray.empty, .int .i64 (3 + p), .int .i64 0, .int .i64 (1 + q), .int .i64 (1 + q + x)] rfl (rd_box (M3.out.blkK 0 rfl)) ?_ ?_ ?_ ?_ ?_)
          · intro u hu
            simp at hu
            rcases hu with rfl | rfl | rfl | rfl | rfl <;> rfl
          · unfold maxLen; omega
          · omega
          · exact hz
          intro v6 w6 ho6 hg6 hat6
          rw [hnx.out] at ho6
          obtain ⟨A6, c6, rfl, _⟩ := own_shape ho6
          have M6 := Lib.hid (M3.out.grow hg6 ho6 (by simpa using hat6))
          clear ho6 hg6 hat6 M3 HM
          go_wp2
          go_roundw
          case rel => exact ⟨k + 1, by omega, by omega, by go_num, A6, c6, rfl, _, M6⟩
          case measure => simp [intOf]; omega)
    · have hfin : Hid (dutiesF l most idle = dutiesF l k idle ∧ (dutiesF l most idle).length = k + 1) := by
        have e : l.take most = l.take k := by
          by_cases h : k = most
          · rw [h]
          · rw [List.take_of_length_le (by omega), List.take_of_length_le (by omega)]
        refine ⟨by simp only [dutiesF, e], ?_⟩
        simp only [dutiesF, e, List.length_cons, List.length_map, List.length_take]
        omega
      by_cases h1 : k < n
      · have hkn : (k : Int) < (n : Int) := by omega
        have hkm : ¬ (k : Int) < (most : Int) := by omega
        clear hlt
        go_wp2
        go_ret
        refine ⟨A', c', ?_, ?_, HM.out.bel⟩
        · rw [hfin.out.2]; rfl
        · rw [hfin.out.2, hfin.out.1]
          exact HM.out.rowO 0 rfl
      · have hkn : ¬ (k : Int) < (n : Int) := by omega
        clear hlt
        go_wp2
        go_ret
        refine ⟨A', c', ?_, ?_, HM.out.bel⟩
        · rw [hfin.out.2]; rfl
        · rw [hfin.out.2, hfin.out.1]
          exact HM.out.rowO 0 rfl
end Go.Proofs.Ythnpeekeoaiaoaa.Task
