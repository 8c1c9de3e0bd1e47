/-
  The walk of the law TasksPlay. Conditions: the arguments read, within the form's own reach.
-/
import Derived.Test.YthnpeekeoaiaoaaPly9
import Derived.Test.YthnpeekeoaiaoaaTask10
import Derived.Deep.DeepCutAuto
namespace Go.Proofs.Ythnpeekeoaiaoaa.Task
open Go.RowKit Go.Proofs.Ythnpeekeoaiaoaa.W Go.Proofs.Ythnpeekeoaiaoaa.Ints

theorem sd_at {w : World} {A : Option Addr} {n : Nat} {X : List SD} (h : Rd w 4 A n (sdV X)) {k : Nat} (hk : k < n) :
    ∃ b o s, A = some ⟨b, o, none⟩ ∧ X[k]? = some s ∧ b < w.heap.size ∧ w.cell? ⟨b, o + k * 4, none⟩ = some (.int .i64 s.task) ∧ w.cell? ⟨b, o + k * 4 + 1, none⟩ = some (.int .i64 s.job) ∧ w.cell? ⟨b, o + k * 4 + 2, none⟩ = some (.int .i64 s.frm) ∧ w.cell? ⟨b, o + k * 4 + 3, none⟩ = some (.int .i64 s.til) := by
  have hl := Rd.rec_len SD.len (by omega) h
  obtain ⟨b, o, e, hc⟩ := Rd.rec SD.len h (by omega)
  have ht : X[k]? = some X[k] := List.getElem?_eq_getElem (by omega)
  have c := hc k _ ht
  have c0 := c 0 _ rfl
  refine ⟨b, o, X[k], e, ht, lt_of_cell c0, c0, ?_, ?_, ?_⟩
  · rw [Nat.add_assoc]; exact c 1 _ rfl
  · rw [Nat.add_assoc]; exact c 2 _ rfl
  · rw [Nat.add_assoc]; exact c 3 _ rfl

theorem rd_new2 (w : World) (t : TypeId) : Rd (w.alloc (.cells #[.int .i64 (-77), .int .i64 0, .int .i64 0, .int .i64 0, .int .i64 (-77), .int .i64 0, .int .i64 0, .int .i64 0] t)) 4 (some ⟨w.heap.size, 0, none⟩) 2 [.int .i64 (-77), .int .i64 0, .int .i64 0, .int .i64 0, .int .i64 (-77), .int .i64 0, .int .i64 0, .int .i64 0] := by
  refine ⟨rfl, fun _ => ⟨_, _, rfl, fun j x hx => ?_⟩⟩
  rw [Nat.zero_add, (Blk.new w t _).cell]
  simpa using hx

set_option maxRecDepth 100000 in
set_option maxHeartbeats 6400000 in
theorem walk_Play (H : Type) (enc : TypeId × Value → H) (w : World) (A : Option Addr) (n c : Nat) (ho : O.Op enc Try.prog w 22 [.slice A n c]) (u : Int) (_hu : (Lit.int .i64 u).wf = true) :
    Calls Try.prog 4 #[.slice A n c, .int .i64 u] w fun e w' => e = .returned (.bool true) ∧ Below w.heap.size w w' := by
  obtain ⟨ts, hnc, hc, hr, _⟩ := tasks_in ho
  obtain ⟨i0, hi0, hz0, hz1, hz2⟩ := info_parts task_info
  obtain ⟨j0, hyi, hy0, hy1, hy2⟩ := info_parts sd_info
  clear ho
  have hl := played_len ts u
  generalize hF : playedF ts u = F at *
  have HF := Lib.hid hF
  have HR := Lib.hid hr
  clear hF hr
  obtain ⟨X, f1, f2⟩ := F
  simp only at hl
  obtain ⟨N, hN⟩ : ∃ N, X.length = N := ⟨_, rfl⟩
  have HN := Lib.hid hN
  rw [hN] at hl
  clear hN
  go_enter Try.func4, Try.ntmps4
  go_wp2_with fail
  refine (Played_any A n c ts u _ HR.out).mono ?_
  intro e w1 hf
  rw [HF.out] at hf
  obtain ⟨A1, c1, rfl, ho, hb⟩ := hf
  simp only [HN.out] at ho ⊢
  have M1 := Lib.hid ((((Mem.start w).made hb ho).alloc 26 #[.int .i64 f1, .int .i64 f2, .int .i64 0]).nilO 42 5)
  clear ho hb
  have hz := M1.out.base
  go_wp2_with (at_builtin; refine wpList_append_rd _ rfl (.const (.slice none 0 0)) (.tmp 20) 22 rfl w.heap.size 42 i0 _ 5 48 Try.underlying22 hi0 hz0 hz1 hz2 rfl (by omega) _ 0 [] rfl (World.ownsRow_nil _ _ _ _) A n c (tasksV ts) rfl (HR.out.below M1.out.bel) (tasks_one _) ?_ ?_ ?_ ?_)
  · unfold maxLen; omega
  · omega
  · exact hz
  intro v1 w2 ho2 hg2 hat2
  obtain ⟨A2, c2, rfl, hs1, hs2, _⟩ := own_shape ho2
  try simp only [Nat.zero_add, List.nil_append] at ho2 hs1 hat2 ⊢
  have M2 := Lib.hid (M1.out.grow hg2 ho2 (by simpa using hat2))
  clear ho2 hg2 hat2 M1 hz
  go_wp2_with fail
  refine (Play_any A2 n c2 ts u _ (M2.out.rdO 0 rfl) hs1).mono ?_
  intro e w3 hf
  rw [HF.out] at hf
  obtain ⟨A3, c3, rfl, ho, hb⟩ := hf
  simp only [HN.out] at ho ⊢
  have M3 := Lib.hid ((M2.out.made hb ho).alloc 26 #[.int .i64 f1, .int .i64 f2, .int .i64 0])
  clear ho hb M2
  go_wp2_with fail
  refine (Play_any A2 n c2 ts u _ (M3.out.rdO 1 rfl) hs1).mono ?_
  intro e w4 hf
  rw [HF.out] at hf
  obtain ⟨A4, c4, rfl, ho, hb⟩ := hf
  simp only [HN.out] at ho ⊢
  have M4 := Lib.hid ((M3.out.made hb ho).alloc 26 #[.int .i64 f1, .int .i64 f2, .int .i64 0])
  clear ho hb M3
  have k0 := M4.out.cellK 0 rfl
  have k1 := M4.out.cellK 1 rfl
  have k2 := M4.out.cellK 2 rfl
  go_wp2_with fail
  refine (sameTasks_eq A A2 n c c2 ts _ (HR.out.below M4.out.bel) (M4.out.rdO 2 rfl) (by omega)).mono ?_
  rintro e w5 ⟨rfl, q, rfl⟩
  have M5 := Lib.hid ((M4.out.drewN q).upO 1 rfl)
  clear k0 k1 k2 M4
  generalize World.drewN _ q = w5 at M5 ⊢
  go_wp2
  have M6 : Hid (∃ Ks, Mem w w5 Ks [⟨36, 4, A3, N, c3, sdV X⟩, ⟨36, 4, A4, N, c4, sdV X⟩, ⟨42, 5, A2, n, c2, tasksV ts⟩, ⟨36, 4, A1, N, c1, sdV X⟩]) := ⟨_, M5.out⟩
  clear M5
  go_loopw [12] (fun i wr => ∃ k : Nat, k ≤ N ∧ i = .int .i64 k ∧ ∃ ys, Hid (∀ j, k * 4 ≤ j → ys[j]? = (sdV X)[j]?) ∧ ∃ Ks, Hid (Mem w wr Ks [⟨36, 4, A3, N, c3, ys⟩, ⟨36, 4, A4, N, c4, sdV X⟩, ⟨42, 5, A2, n, c2, tasksV ts⟩, ⟨36, 4, A1, N, c1, sdV X⟩])) (fun i _ => N - (intOf i).toNat)
  case atStart =>
    obtain ⟨Ks, h⟩ := M6.out
    exact ⟨0, Nat.zero_le _, rfl, _, fun _ _ => rfl, Ks, h⟩
  case round =>
    clear M6
    obtain ⟨k, hk, rfl, ys, hys, Ks, HM⟩ := hrel
    by_cases hlt : k < N
    · obtain ⟨b, o, s, rfl, hs, hbl, d0, d1, d2, d3⟩ := sd_at (HM.out.rdO 3 rfl) hlt
      obtain ⟨g, rfl, hg1, hg2⟩ := HM.out.head (by omega)
      have hca : ∀ i u, s.cs[i]? = some u → i < 4 → wr.cell? ⟨g, k * 4 + i, none⟩ = some u := fun i u hi h4 => by
        rw [(HM.out.rowO 0 rfl).cellAt (k * 4 + i) (by omega), hys.out _ (by omega)]
        exact (flat_at SD.len X k i s hs h4).trans hi
      have e0 := hca 0 _ rfl (by omega)
      have e1 := hca 1 _ rfl (by omega)
      have e2 := hca 2 _ rfl (by omega)
      have e3 := hca 3 _ rfl (by omega)
      rw [Nat.add_zero] at e0
      have fz := (HM.out.rowO 0 rfl).frozenAt
      have hk0 : (0 : Int) ≤ (k : Int) := by omega
      have hkn : (k : Int) < (N : Int) := by omega
      have M7 := Lib.hid ((((HM.out.put (j := k * 4) (.int .i64 (-77))).put (j := k * 4 + 1) (.int .i64 0)).put (j := k * 4 + 2) (.int .i64 0)).put (j := k * 4 + 3) (.int .i64 0))
      have HS := Lib.hid hs
      clear hca hs
      go_wp2
      go_quiet (fail)
      go_upto_region 12 with fail
      generalize hw6 : World.drewN wr _ = w6
      have em : ∀ Ks Os, Mem w wr Ks Os → Mem w w6 Ks Os := fun Ks Os h => by rw [← hw6]; exact h.drewN _
      have M8 := Lib.hid (em _ _ HM.out)
      have ec : ∀ i, w6.cell? ⟨g, i, none⟩ = wr.cell? ⟨g, i, none⟩ := fun i => by rw [← hw6]; rfl
      have e0 := (ec _).trans e0
      have e1 := (ec _).trans e1
      have e2 := (ec _).trans e2
      have e3 := (ec _).trans e3
      have fz := (M8.out.rowO 0 rfl).frozenAt
      have M9 := Lib.hid ((((M8.out.put (j := k * 4) (.int .i64 (-77))).put (j := k * 4 + 1) (.int .i64 0)).put (j := k * 4 + 2) (.int .i64 0)).put (j := k * 4 + 3) (.int .i64 0))
      clear hw6 em ec M7 M8 d0 d1 d2 d3
      go_wp2
      go_roundw
      case rel =>
        refine ⟨k + 1, by omega, by go_num, _, fun j hj => ?_, Ks, M9.out⟩
        rw [List.getElem?_set_ne (by omega), List.getElem?_set_ne (by omega), List.getElem?_set_ne (by omega), List.getElem?_set_ne (by omega)]
        exact hys.out j (by omega)
      case measure => simp [intOf]; omega
    · obtain rfl : k = N := by omega
      have hown := Lib.hid (HM.out.rowO 0 rfl)
      have hz := HM.out.base
      go_wp2_with (at_builtin; refine wpList_append_rd _ rfl (.tmp 81) (.tmp 84) 31 rfl w.heap.size 36 j0 _ 4 32 Try.underlying31 hyi hy0 hy1 hy2 rfl (by omega) _ k ys rfl (hown.out.alloc _) _ 2 2 [.int .i64 (-77), .int .i64 0, .int .i64 0, .int .i64 0, .int .i64 (-77), .int .i64 0, .int .i64 0, .int .i64 0] rfl (rd_new2 _ _) ?_ ?_ ?_ ?_ ?_)
      · intro u hu
        simp at hu
        rcases hu with rfl | rfl | rfl | rfl <;> rfl
      · unfold maxLen; omega
      · omega
      · simp; omega
      intro v' w6 ho6 hg6 hat6
      obtain ⟨A5, c5, rfl, _⟩ := own_shape ho6
      have M9 := Lib.hid (HM.out.appd hg6 ho6 hat6)
      clear ho6 hg6 hat6 HM hown
      go_wp2
      go_loopw [13] (fun i wr => ∃ k' : Nat, k' ≤ k ∧ i = .int .i64 k' ∧ ∃ q, wr = w6.drewN q) (fun i _ => k - (intOf i).toNat)
      case atStart => exact ⟨0, Nat.zero_le _, rfl, 0, rfl⟩
      case round =>
        obtain ⟨k', hk', rfl, q, rfl⟩ := hrel
        by_cases hlt' : k' < k
        · obtain ⟨b, o, s, rfl, hs, hbl, d0, d1, d2, d3⟩ := sd_at (M9.out.rdO 3 rfl) hlt'
          obtain ⟨b', o', s', rfl, hs', hbl', e0, e1, e2, e3⟩ := sd_at (M9.out.rdO 1 rfl) hlt'
          obtain rfl : s = s' := by rw [hs] at hs'; injection hs'
          have hk0 : (0 : Int) ≤ (k' : Int) := by omega
          have hkn : (k' : Int) < (k : Int) := by omega
          clear hs hs' hbl hbl'
          go_wp2
          go_quiet (fail)
          go_wp2
          go_roundw
          case rel => exact ⟨k' + 1, by omega, by go_num, _, rfl⟩
          case measure => simp [intOf]; omega
        · have hb := Lib.hid (M9.out.drewN q).bel
          go_wp2
          go_ret
          exact ⟨rfl, hb.out⟩
end Go.Proofs.Ythnpeekeoaiaoaa.Task
