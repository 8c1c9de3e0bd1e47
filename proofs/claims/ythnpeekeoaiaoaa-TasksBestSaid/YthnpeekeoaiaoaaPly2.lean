/-
  Who runs when, by the reference: microsecond by microsecond. Conditions: the list reads.
-/
import Derived.Test.YthnpeekeoaiaoaaPly1
import Derived.Test.YthnpeekeoaiaoaaTask8
import Derived.Test.YthnpeekeoaiaoaaMem
import Derived.Test.YthnpeekeoaiaoaaMake
import Derived.Test.YthnpeekeoaiaoaaApl
import Derived.RegionTactic
import Derived.BigRegion
import Derived.Deep.DeepCutAuto
import Derived.Deep.RegionHeld3
import Derived.IntWalk
namespace Go.Proofs.Ythnpeekeoaiaoaa.Task
open Go.RowKit Go.Proofs.Ythnpeekeoaiaoaa.W Go.Proofs.Ythnpeekeoaiaoaa.Ints

theorem sd_info : (Try.prog.info? 36).map (fun i => (i.zero, i.size, i.bytes)) = some (some (.agg #[.int .i64 0, .int .i64 0, .int .i64 0, .int .i64 0]), 4, 32) := by kernel_rfl
def playedF (ts : List TD) (u : Int) : List SD × (Int × Int) := if (faultF ts).1 = 0 then (if u < 0 ∨ 20000 < u then ([], (4, 0)) else ((playF ts u.toNat).2, (0, 0))) else ([], faultF ts)
def FreshP (w w' : World) (e : Ending) (F : List SD × (Int × Int)) : Prop :=
  ∃ A c, e = .returned (.tuple #[.slice A F.1.length c, faultV F.2]) ∧ w'.ownsRow w.heap.size 36 4 (.slice A F.1.length c) F.1.length (sdV F.1) ∧ Below w.heap.size w w'
theorem sd_set (P : List SD) (j x f k p : Int) : sdV (P ++ [⟨j, x, f, p⟩]) = (sdV (P ++ [⟨j, x, f, k⟩])).set (P.length * 4 + 3) (.int .i64 p) := by
  have h : (P.flatMap SD.cs).length = P.length * 4 := flat_len SD.len P
  rw [sdV, sdV, List.flatMap_append, List.flatMap_append, List.set_append, if_neg (by omega), h]
  simp [SD.cs, show P.length * 4 + 3 - P.length * 4 = 3 from by omega]
theorem fault_p {w w' : World} (f : Int × Int) (hb : Below w.heap.size w w') : FreshP w w' (.returned (.tuple #[.slice none 0 0, faultV f])) ([], f) :=
  ⟨none, 0, rfl, World.ownsRow_nil _ _ _ _, hb⟩

set_option maxRecDepth 100000 in
set_option maxHeartbeats 6400000 in
theorem Played_any (A : Option Addr) (n c : Nat) (ts : List TD) (u : Int) (w : World) (hr : Rd w 5 A n (tasksV ts)) :
    Calls Try.prog 11 #[.slice A n c, .int .i64 u] w fun e w' => FreshP w w' e (playedF ts u) := by
  obtain ⟨i0, hi0, hy0, hy1, hy2⟩ := info_parts sd_info
  have hl := Rd.rec_len TD.len (by omega) hr
  have HR := Lib.hid hr
  clear hr
  by_cases hf : (faultF ts).1 = 0
  · obtain ⟨n1, n16, hok, hff⟩ := fault_ok hf
    have hO : playedF ts u = if u < 0 ∨ 20000 < u then ([], (4, 0)) else ((playF ts u.toNat).2, (0, 0)) := by rw [playedF, if_pos hf]
    have HF := Lib.hid hff
    have HK := Lib.hid hok
    have HL := Lib.hid hl
    have h16 : n ≤ 16 := by omega
    have h1 : 1 ≤ n := by omega
    generalize playedF ts u = T at hO ⊢
    clear hff hok hl hf n1 n16
    by_cases hu : u < 0 ∨ 20000 < u
    · rw [if_pos hu] at hO
      have HO := Lib.hid hO
      have hu' : u < 0 ∨ (0 ≤ u ∧ 20000 < u) := by omega
      clear hO hu
      rcases hu' with hu | ⟨hu0, hu⟩
      all_goals go_enter Try.func11, Try.ntmps11
      all_goals go_wp2_with fail
      all_goals refine (Tasked_any A n c ts _ (HR.out.alloc _)).mono ?_
      all_goals rintro e w1 ⟨rfl, hb⟩
      all_goals rw [HF.out]
      all_goals have M1 := Lib.hid ((((Mem.start w).alloc 26 #[.int .i64 0, .int .i64 0, .int .i64 0]).below hb).alloc 26 #[.int .i64 0, .int .i64 0, .int .i64 0])
      all_goals have c1 := M1.out.cellK 0 rfl
      all_goals have c2 := M1.out.cellK 1 rfl
      all_goals have f2 := M1.out.frozenK 1 rfl
      all_goals have hz := (M1.out.ltK 1 rfl).2
      all_goals have HB := Lib.hid M1.out.bel
      all_goals simp only [World.size_alloc] at hz
      all_goals clear hb M1
      all_goals go_wp2
      all_goals refine bodyPost_ret (v := .tuple #[.slice none 0 0, faultV (4, 0)]) ?_ rfl ?_
      all_goals first | (simp [results, Try.results11, go_sem, c2]; done) | skip
      all_goals rw [HO.out]
      all_goals refine fault_p _ ?_
      all_goals repeat' (first | (with_reducible exact HB.out) | (with_reducible refine Below.setCell ?_ ?_ _; rotate_left; (simp <;> omega)) | (with_reducible refine Below.alloc ?_ ?_ _; rotate_left; (simp <;> omega)))
    · rw [if_neg hu] at hO
      have HO := Lib.hid hO
      obtain ⟨U, rfl⟩ := Int.eq_ofNat_of_zero_le (show 0 ≤ u by omega)
      have hU : U ≤ 20000 := by omega
      clear hO hu
      go_enter Try.func11, Try.ntmps11
      go_wp2_with fail
      refine (Tasked_any A n c ts _ (HR.out.alloc _)).mono ?_
      rintro e w1 ⟨rfl, hb⟩
      rw [HF.out]
      have M1 := Lib.hid ((((Mem.start w).alloc 26 #[.int .i64 0, .int .i64 0, .int .i64 0]).below hb).alloc 26 #[.int .i64 0, .int .i64 0, .int .i64 0])
      have c1 := M1.out.cellK 0 rfl
      have hz := (M1.out.ltK 1 rfl).2
      simp only [World.size_alloc] at hz
      clear hb
      have hmk := make_any n (by omega)
      go_upto_region 7 with fail
      have M2 : Hid (Mem w ((w1.alloc (.cells #[.int .i64 0, .int .i64 0, .int .i64 0] 26)).alloc (.cells (noughts n) 3)) [⟨w1.heap.size, 26, #[.int .i64 0, .int .i64 0, .int .i64 0]⟩, ⟨w.heap.size, 26, #[.int .i64 0, .int .i64 0, .int .i64 0]⟩]
          [⟨36, 4, none, 0, 0, sdV (playF ts 0).2⟩, ⟨3, 1, some ⟨w1.heap.size + 1, 0, none⟩, n, n, ints (playF ts 0).1⟩]) := by
        have h := M1.out.made (below_alloc (.cells (noughts n) 3)) (make_own n (by omega) _ (Nat.le_refl _))
        simp only [World.size_alloc] at h
        rw [show List.replicate n (0 : Int) = (playF ts 0).1 from by rw [playF, HL.out]] at h
        exact h.nilO _ _
      clear c1 hmk M1
      generalize World.alloc _ (Obj.cells (noughts n) _ _) = W at M2 ⊢
      go_wp2
      go_loopw [8, 9] (fun v8 i wr => ∃ k : Nat, k ≤ U ∧ i = .int .i64 k ∧ ∃ B d, v8 = .slice B (playF ts k).2.length d ∧ Hid (Mem w wr [⟨w1.heap.size, 26, #[.int .i64 0, .int .i64 0, .int .i64 0]⟩, ⟨w.heap.size, 26, #[.int .i64 0, .int .i64 0, .int .i64 0]⟩]
          [⟨36, 4, B, (playF ts k).2.length, d, sdV (playF ts k).2⟩, ⟨3, 1, some ⟨w1.heap.size + 1, 0, none⟩, n, n, ints (playF ts k).1⟩])) (fun _ i _ => U - (intOf i).toNat)
      case atStart => exact ⟨0, Nat.zero_le _, rfl, _, _, rfl, M2⟩
      case round =>
        clear M2
        obtain ⟨k, hk, rfl, B, d, rfl, HM⟩ := hrel
        by_cases hlt : k < U
        · obtain ⟨hD1, hD2, hD3⟩ := play_ok ts k
          have hst : playF ts (k + 1) = stepF ts k (playF ts k) := rfl
          have HST := Lib.hid hst
          clear hst
          generalize hS : playF ts k = S at *
          have HS := Lib.hid hS
          clear hS
          obtain ⟨D, O⟩ := S
          simp only at hD1 hD2 hD3 HM
          have HDL := Lib.hid hD1
          have HD3 := Lib.hid hD3
          generalize hOL : O.length = L at *
          have HOL := Lib.hid hOL
          clear hD1 hD3 hOL
          go_wp2
          obtain ⟨w0, hw0⟩ : ∃ w0 : World, w0 = wr := ⟨_, rfl⟩
          subst hw0
          go_loopw [8, 10, 11] (fun v8 i _ wr => ∃ j : Nat, j ≤ n ∧ i = .int .i64 j ∧ v8 = .slice B L d ∧ Hid (∀ x, x < j → readyB ts D k x = false) ∧ ∃ q, wr = w0.drewN q) (fun _ i _ _ => n - (intOf i).toNat)
          case atStart => exact ⟨0, Nat.zero_le _, rfl, rfl, fun x h => by omega, 0, rfl⟩
          case round =>
            obtain ⟨j, hj, rfl, rfl, hp, q, rfl⟩ := hrel
            by_cases hltj : j < n
            · obtain ⟨b, o, t, rfl, ht, hbl, c0, c1, c2, c3, c4⟩ := task_at (HR.out.below HM.out.bel) hltj
              obtain ⟨p1, p2, p3, p4, p5, p6, p7, p8⟩ := ok_parts (get_ok HK.out ht)
              have hD3 := HD3.out j
              have cD : w0.cell? ⟨w1.heap.size + 1, j, none⟩ = some (.int .i64 (D.getD j 0)) := by
                rw [(HM.out.rowO 1 rfl).cellAt j (by omega)]
                simp [ints, List.getElem?_map, List.getD_eq_getElem?_getD, List.getElem?_eq_getElem (show j < D.length by rw [HDL.out, HL.out]; exact hltj)]
              have hj0 : (0 : Int) ≤ (j : Int) := by omega
              have hjn : (j : Int) < (n : Int) := by omega
              have hct := at_cost ht
              have hpt := at_per ht
              have hot := at_off ht
              have hrd : Hid (readyB ts D k j = decide (D.getD j 0 < (if t.off ≤ (k : Int) then ((k : Int) - t.off) / t.per + 1 else 0) * t.cost)) := by
                rw [Hid, readyB, relF, hct, hpt, hot]
              have HCT := Lib.hid hct
              have hgl : w1.heap.size + 1 < w0.heap.size := (HM.out.upO 1 rfl |>.head (by omega)).elim (fun g h => by obtain ⟨e, _, h⟩ := h; injection e with e; injection e with e; rw [e]; exact h)
              clear hct hpt hot ht c0 c4
              generalize hdj : D.getD j 0 = dj at *
              have HDJ := Lib.hid hdj
              clear hdj
              by_cases hoff : t.off ≤ (k : Int)
              · have hq0 := Int.ediv_nonneg (show 0 ≤ (k : Int) - t.off by omega) (show 0 ≤ t.per by omega)
                have hq1 := Int.ediv_le_self t.per (show 0 ≤ (k : Int) - t.off by omega)
                rw [if_pos hoff] at hrd
                generalize hqq : ((k : Int) - t.off) / t.per = z at *
                have hm0 : 0 ≤ (z + 1) * t.cost := Int.mul_nonneg (by omega) (by omega)
                have hm1 : (z + 1) * t.cost ≤ 20001 * 1000000 := Int.mul_le_mul (by omega) (by omega) (by omega) (by omega)
                by_cases hrdy : dj < (z + 1) * t.cost
                · have hrd2 : decide ((z + 1) * t.cost ≤ dj) = false := by simp; omega
                  have HRD : Hid (readyB ts D k j = true) := hrd.out.trans (decide_eq_true hrdy)
                  have hx0 := Int.ediv_nonneg (show 0 ≤ dj by omega) (show 0 ≤ t.cost by omega)
                  have hx1 := Int.ediv_le_self t.cost (show 0 ≤ dj by omega)
                  have hne : ¬ t.cost = 0 := by omega
                  clear hrdy hrd
                  generalize hxx : dj / t.cost = x at *
                  go_wp2
                  go_quiet (fail)
                  go_wp2
                  go_quiet (fail)
                  go_upto_region 18 with fail
                  generalize hw2 : World.drewN (World.drewN (World.drewN w0 q) _) _ = w2
                  have e2 : ∀ (Ks : List Box) (Os : List Row), Mem w w0 Ks Os → Mem w w2 Ks Os := fun Ks Os h => by rw [← hw2]; exact ((h.drewN _).drewN _).drewN _
                  have M3 := Lib.hid (e2 _ _ HM.out)
                  have d3 : w2.cell? ⟨b, o + j * 5 + 3, none⟩ = some (.int .i64 t.cost) := by rw [← hw2]; exact c3
                  have dD : w2.cell? ⟨w1.heap.size + 1, j, none⟩ = some (.int .i64 dj) := by rw [← hw2]; exact cD
                  have gl2 : b < w2.heap.size := by rw [← hw2]; exact hbl
                  have gl3 : w1.heap.size + 1 < w2.heap.size := by rw [← hw2]; exact hgl
                  clear c1 c2 c3 cD hbl hgl hw2 e2
                  have r1 : IntKind.i64.wrap (dj.tdiv t.cost) = x := by
                    rw [Int.tdiv_eq_ediv_of_nonneg (by omega), hxx]
                    exact IntWalk.i64_in _ (by omega)
                  have r2 : IntKind.i64.wrap ((k : Int) + 1) = (k : Int) + 1 := IntWalk.i64_in _ (by omega)
                  have n1 := World.new_ne w2 _ d3
                  have n2 := World.new_ne w2 _ dD
                  go_region_held3 (fun w' => w'.cell? ⟨w1.heap.size + 1, j, none⟩ = some (.int .i64 dj) ∧ w'.cell? ⟨b, o + j * 5 + 3, none⟩ = some (.int .i64 t.cost)) (go_keep) (fail)
                  go_upto_region 20 with fail
                  have M4 : Hid (Mem w (w2.alloc (.cells #[.int .i64 j, .int .i64 x, .int .i64 k, .int .i64 (k + 1)] 36)).drew [⟨w2.heap.size, 36, #[.int .i64 j, .int .i64 x, .int .i64 k, .int .i64 (k + 1)]⟩, ⟨w1.heap.size, 26, #[.int .i64 0, .int .i64 0, .int .i64 0]⟩, ⟨w.heap.size, 26, #[.int .i64 0, .int .i64 0, .int .i64 0]⟩]
                      [⟨36, 4, B, L, d, sdV O⟩, ⟨3, 1, some ⟨w1.heap.size + 1, 0, none⟩, n, n, ints D⟩]) := (M3.out.alloc _ _).drew
                  clear n1 n2 d3 dD gl2 gl3 M3 r1 r2
                  generalize w2.heap.size = g2 at *
                  generalize World.drew (World.alloc _ _) = w3 at M4 ⊢
                  have cs := M4.out.cellK 0 rfl
                  have HN : Hid (playF ts (k + 1) = (D.set j (dj + 1), addS O j x k (k + 1))) := by
                    have h := HST.out.trans (step_some (first_some (by rw [HL.out]; exact hltj) HRD.out hp.out))
                    rw [Hid, h]
                    simp only [HDJ.out, HCT.out, hxx]
                  have hrow : ints (D.set j (dj + 1)) = (ints D).set j (.int .i64 (dj + 1)) := by simp [ints]
                  have HROW := Lib.hid hrow
                  have hgD : Hid ((ints D)[j]? = some (.int .i64 dj)) := by
                    have := HDJ.out
                    rw [List.getD_eq_getElem?_getD, List.getElem?_eq_getElem (show j < D.length by rw [HDL.out, HL.out]; exact hltj)] at this
                    simp [Hid, ints, List.getElem?_map, List.getElem?_eq_getElem (show j < D.length by rw [HDL.out, HL.out]; exact hltj)] at this ⊢
                    exact this
                  clear hxx hrow HST
                  by_cases hyes : ∃ P f, O = P ++ [⟨j, x, f, k⟩]
                  · obtain ⟨P, f, e0⟩ := hyes
                    obtain ⟨m, hPm⟩ : ∃ m, P.length = m := ⟨_, rfl⟩
                    obtain rfl : L = m + 1 := by have := HOL.out; rw [e0] at this; simp at this; omega
                    have HADD : Hid (addS O j x k (k + 1) = P ++ [⟨j, x, f, k + 1⟩]) := by rw [Hid, e0]; exact add_yes ..
                    have HSET : Hid (sdV (addS O j x k (k + 1)) = (sdV O).set (m * 4 + 3) (.int .i64 (k + 1))) := by rw [Hid, HADD.out, e0, ← hPm]; exact sd_set ..
                    have HLEN : Hid ((addS O j x k (k + 1)).length = m + 1) := by rw [Hid, HADD.out]; simp [hPm]
                    obtain ⟨g, rfl, hg1, hg2⟩ := M4.out.head (by omega)
                    have hsd : ∀ i u, (⟨j, x, f, k⟩ : SD).cs[i]? = some u → i < 4 → w3.cell? ⟨g, m * 4 + i, none⟩ = some u := by
                      intro i u hu hi
                      rw [(M4.out.rowO 0 rfl).cellAt (m * 4 + i) (by omega), flat_at SD.len O m i ⟨j, x, f, k⟩ (by rw [e0, ← hPm]; simp) hi, hu]
                    have s0 := hsd 0 _ rfl (by omega)
                    have s1 := hsd 1 _ rfl (by omega)
                    have s3 := hsd 3 _ rfl (by omega)
                    rw [Nat.add_zero] at s0
                    have hm0' : (0 : Int) ≤ (m : Int) := by omega
                    have hm1' : (m : Int) < ((m + 1 : Nat) : Int) := by omega
                    rw [show ((m + 1 : Nat) : Int) - 1 = (m : Int) from by omega]
                    have HE0 := Lib.hid e0
                    clear hsd e0 hPm
                    go_quiet (fail)
                    go_upto_region 21 with fail
                    generalize hw5 : World.drewN w3 _ = w5
                    have e5 : ∀ (Ks : List Box) (Os : List Row), Mem w w3 Ks Os → Mem w w5 Ks Os := fun Ks Os h => by rw [← hw5]; exact h.drewN _
                    have M5 := Lib.hid (e5 _ _ M4.out)
                    have t3 : w5.cell? ⟨g, m * 4 + 3, none⟩ = some (.int .i64 k) := by rw [← hw5]; exact s3
                    have f3 := (M5.out.rowO 0 rfl).frozenAt (m * 4 + 3)
                    have M6 := Lib.hid ((M5.out.put (j := m * 4 + 3) (.int .i64 (k + 1))).delK 0)
                    clear hw5 e5 M4 cs M5 s0 s1 s3
                    go_upto_region 23 with fail
                    generalize World.setCell _ _ _ = w6 at M6 ⊢
                    have cD : w6.cell? ⟨w1.heap.size + 1, j, none⟩ = some (.int .i64 dj) := by
                      rw [(M6.out.rowO 1 rfl).cellAt j (by omega)]
                      exact hgD.out
                    have fD := (M6.out.rowO 1 rfl).frozenAt j
                    have M7 := Lib.hid (((M6.out.upO 1 rfl).put (j := j) (.int .i64 (dj + 1))).upO 1 rfl)
                    clear M6 t3 f3
                    go_wp2
                    go_roundw
                    case rel => exact ⟨k + 1, by omega, by go_num, _, _, by rw [HN.out, HLEN.out], by rw [HN.out, HLEN.out, HROW.out, HSET.out]; exact M7.out⟩
                    case measure => simp [intOf]; omega
                  · have HADD : Hid (addS O j x k (k + 1) = O ++ [⟨j, x, k, k + 1⟩]) := by
                      rcases snoc_cases O with rfl | ⟨P, s, rfl⟩
                      · rfl
                      · refine add_no _ (fun h => hyes ?_)
                        obtain ⟨a1, a2, a3, a4⟩ := s
                        obtain ⟨rfl, rfl, rfl⟩ := h
                        exact ⟨P, a3, rfl⟩
                    have hways : (O = [] ∧ L = 0) ∨ ∃ P s m, O = P ++ [s] ∧ P.length = m ∧ L = m + 1 ∧ ((s.til == (k : Int)) = false ∨ ((s.til == (k : Int)) = true ∧ (s.task == (j : Int)) = false) ∨ ((s.til == (k : Int)) = true ∧ (s.task == (j : Int)) = true ∧ (s.job == x) = false)) := by
                      rcases snoc_cases O with e | ⟨P, s, e⟩
                      · refine .inl ⟨e, ?_⟩
                        have := HOL.out
                        rw [e] at this
                        simp at this
                        exact this.symm
                      · refine .inr ⟨P, s, P.length, e, rfl, by have := HOL.out; rw [e] at this; simp at this; omega, ?_⟩
                        by_cases e1 : s.til = (k : Int)
                        · by_cases e2 : s.task = (j : Int)
                          · by_cases e3 : s.job = x
                            · exact absurd ⟨P, s.frm, by rw [e, ← e1, ← e2, ← e3]⟩ hyes
                            · exact .inr (.inr ⟨by simp [e1], by simp [e2], by simp [e3]⟩)
                          · exact .inr (.inl ⟨by simp [e1], by simp [e2]⟩)
                        · exact .inl (by simp [e1])
                    clear hyes
                    rcases hways with ⟨e0, rfl⟩ | ⟨P, s, m, e0, hPm, rfl, hw⟩
                    · have HE0 := Lib.hid e0
                      clear e0
                      rw [show ((0 : Nat) : Int) - 1 = -1 from rfl]
                      go_quiet (fail)
                      go_upto_region 22 with fail
                      generalize hw5 : World.drewN w3 _ = w5
                      have e5 : ∀ (Ks : List Box) (Os : List Row), Mem w w3 Ks Os → Mem w w5 Ks Os := fun Ks Os h => by rw [← hw5]; exact h.drewN _
                      have M5 := Lib.hid (e5 _ _ M4.out)
                      have cs' := M5.out.cellK 0 rfl
                      have hown := Lib.hid (M5.out.rowO 0 rfl)
                      have z5 := M5.out.base
                      clear hw5 e5 M4 cs
                      go_wp2_with (at_builtin; refine wpList_append_rd _ rfl (.tmp 129) (.tmp 131) 31 rfl w.heap.size 36 i0 _ 4 32 Try.underlying31 hi0 hy0 hy1 hy2 rfl (by omega) _ 0 (sdV O) rfl (hown.out.alloc _) _ 1 1 [.int .i64 j, .int .i64 x, .int .i64 k, .int .i64 (k + 1)] rfl (rd_newR _ _ #[.int .i64 j, .int .i64 x, .int .i64 k, .int .i64 (k + 1)]) ?_ ?_ ?_ ?_ ?_)
                      · intro u hu
                        simp at hu
                        rcases hu with rfl | rfl | rfl | rfl <;> rfl
                      · unfold maxLen; omega
                      · omega
                      · simp; omega
                      intro v' w6 ho6 hg6 hat6
                      obtain ⟨B', d', rfl, _⟩ := own_shape ho6
                      rw [show sdV O ++ [.int .i64 j, .int .i64 x, .int .i64 k, .int .i64 (k + 1)] = sdV (addS O j x k (k + 1)) from by rw [HADD.out]; simp [sdV, SD.cs]] at ho6
                      have M6 := Lib.hid ((M5.out.appd hg6 ho6 hat6).delK 0)
                      clear ho6 hg6 hat6 M5 hown cs'
                      have cD : w6.cell? ⟨w1.heap.size + 1, j, none⟩ = some (.int .i64 dj) := by
                        rw [(M6.out.rowO 1 rfl).cellAt j (by omega)]
                        exact hgD.out
                      have fD := (M6.out.rowO 1 rfl).frozenAt j
                      have M7 := Lib.hid (((M6.out.upO 1 rfl).put (j := j) (.int .i64 (dj + 1))).upO 1 rfl)
                      have hlen : (addS O j x k (k + 1)).length = 0 + 1 := by rw [HADD.out, List.length_append, HOL.out]; rfl
                      have HLEN := Lib.hid hlen
                      clear hlen M6
                      go_wp2
                      go_roundw
                      case rel => exact ⟨k + 1, by omega, by go_num, B', d', by rw [HN.out, HLEN.out], by rw [HN.out, HLEN.out, HROW.out]; exact M7.out⟩
                      case measure => simp [intOf]; omega
                    · obtain ⟨g, rfl, hg1, hg2⟩ := M4.out.head (by omega)
                      have hsd : ∀ i u, s.cs[i]? = some u → i < 4 → w3.cell? ⟨g, m * 4 + i, none⟩ = some u := by
                        intro i u hu hi
                        rw [(M4.out.rowO 0 rfl).cellAt (m * 4 + i) (by omega), flat_at SD.len O m i s (by rw [e0, ← hPm]; simp) hi, hu]
                      have s0 := hsd 0 _ rfl (by omega)
                      have s1 := hsd 1 _ rfl (by omega)
                      have s3 := hsd 3 _ rfl (by omega)
                      rw [Nat.add_zero] at s0
                      have hm0' : (0 : Int) ≤ (m : Int) := by omega
                      have hm1' : (m : Int) < ((m + 1 : Nat) : Int) := by omega
                      rw [show ((m + 1 : Nat) : Int) - 1 = (m : Int) from by omega]
                      have HE0 := Lib.hid e0
                      clear hsd e0 hPm
                      rcases hw with hw1 | ⟨hw1, hw2⟩ | ⟨hw1, hw2, hw3⟩
                      · go_quiet (fail)
                        go_upto_region 22 with fail
                        generalize hw5 : World.drewN w3 _ = w5
                        have e5 : ∀ (Ks : List Box) (Os : List Row), Mem w w3 Ks Os → Mem w w5 Ks Os := fun Ks Os h => by rw [← hw5]; exact h.drewN _
                        have M5 := Lib.hid (e5 _ _ M4.out)
                        have cs' := M5.out.cellK 0 rfl
                        have hown := Lib.hid (M5.out.rowO 0 rfl)
                        have z5 := M5.out.base
                        clear hw5 e5 M4 cs
                        go_wp2_with (at_builtin; refine wpList_append_rd _ rfl (.tmp 129) (.tmp 131) 31 rfl w.heap.size 36 i0 _ 4 32 Try.underlying31 hi0 hy0 hy1 hy2 rfl (by omega) _ (m + 1) (sdV O) rfl (hown.out.alloc _) _ 1 1 [.int .i64 j, .int .i64 x, .int .i64 k, .int .i64 (k + 1)] rfl (rd_newR _ _ #[.int .i64 j, .int .i64 x, .int .i64 k, .int .i64 (k + 1)]) ?_ ?_ ?_ ?_ ?_)
                        · intro u hu
                          simp at hu
                          rcases hu with rfl | rfl | rfl | rfl <;> rfl
                        · unfold maxLen; omega
                        · omega
                        · simp; omega
                        intro v' w6 ho6 hg6 hat6
                        obtain ⟨B', d', rfl, _⟩ := own_shape ho6
                        rw [show sdV O ++ [.int .i64 j, .int .i64 x, .int .i64 k, .int .i64 (k + 1)] = sdV (addS O j x k (k + 1)) from by rw [HADD.out]; simp [sdV, SD.cs]] at ho6
                        have M6 := Lib.hid ((M5.out.appd hg6 ho6 hat6).delK 0)
                        clear ho6 hg6 hat6 M5 hown cs'
                        have cD : w6.cell? ⟨w1.heap.size + 1, j, none⟩ = some (.int .i64 dj) := by
                          rw [(M6.out.rowO 1 rfl).cellAt j (by omega)]
                          exact hgD.out
                        have fD := (M6.out.rowO 1 rfl).frozenAt j
                        have M7 := Lib.hid (((M6.out.upO 1 rfl).put (j := j) (.int .i64 (dj + 1))).upO 1 rfl)
                        have hlen : (addS O j x k (k + 1)).length = (m + 1) + 1 := by rw [HADD.out, List.length_append, HOL.out]; rfl
                        have HLEN := Lib.hid hlen
                        clear hlen M6
                        go_wp2
                        go_roundw
                        case rel => exact ⟨k + 1, by omega, by go_num, B', d', by rw [HN.out, HLEN.out], by rw [HN.out, HLEN.out, HROW.out]; exact M7.out⟩
                        case measure => simp [intOf]; omega
                      · go_quiet (fail)
                        go_upto_region 22 with fail
                        generalize hw5 : World.drewN w3 _ = w5
                        have e5 : ∀ (Ks : List Box) (Os : List Row), Mem w w3 Ks Os → Mem w w5 Ks Os := fun Ks Os h => by rw [← hw5]; exact h.drewN _
                        have M5 := Lib.hid (e5 _ _ M4.out)
                        have cs' := M5.out.cellK 0 rfl
                        have hown := Lib.hid (M5.out.rowO 0 rfl)
                        have z5 := M5.out.base
                        clear hw5 e5 M4 cs
                        go_wp2_with (at_builtin; refine wpList_append_rd _ rfl (.tmp 129) (.tmp 131) 31 rfl w.heap.size 36 i0 _ 4 32 Try.underlying31 hi0 hy0 hy1 hy2 rfl (by omega) _ (m + 1) (sdV O) rfl (hown.out.alloc _) _ 1 1 [.int .i64 j, .int .i64 x, .int .i64 k, .int .i64 (k + 1)] rfl (rd_newR _ _ #[.int .i64 j, .int .i64 x, .int .i64 k, .int .i64 (k + 1)]) ?_ ?_ ?_ ?_ ?_)
                        · intro u hu
                          simp at hu
                          rcases hu with rfl | rfl | rfl | rfl <;> rfl
                        · unfold maxLen; omega
                        · omega
                        · simp; omega
                        intro v' w6 ho6 hg6 hat6
                        obtain ⟨B', d', rfl, _⟩ := own_shape ho6
                        rw [show sdV O ++ [.int .i64 j, .int .i64 x, .int .i64 k, .int .i64 (k + 1)] = sdV (addS O j x k (k + 1)) from by rw [HADD.out]; simp [sdV, SD.cs]] at ho6
                        have M6 := Lib.hid ((M5.out.appd hg6 ho6 hat6).delK 0)
                        clear ho6 hg6 hat6 M5 hown cs'
                        have cD : w6.cell? ⟨w1.heap.size + 1, j, none⟩ = some (.int .i64 dj) := by
                          rw [(M6.out.rowO 1 rfl).cellAt j (by omega)]
                          exact hgD.out
                        have fD := (M6.out.rowO 1 rfl).frozenAt j
                        have M7 := Lib.hid (((M6.out.upO 1 rfl).put (j := j) (.int .i64 (dj + 1))).upO 1 rfl)
                        have hlen : (addS O j x k (k + 1)).length = (m + 1) + 1 := by rw [HADD.out, List.length_append, HOL.out]; rfl
                        have HLEN := Lib.hid hlen
                        clear hlen M6
                        go_wp2
                        go_roundw
                        case rel => exact ⟨k + 1, by omega, by go_num, B', d', by rw [HN.out, HLEN.out], by rw [HN.out, HLEN.out, HROW.out]; exact M7.out⟩
                        case measure => simp [intOf]; omega
                      · go_quiet (fail)
                        go_upto_region 22 with fail
                        generalize hw5 : World.drewN w3 _ = w5
                        have e5 : ∀ (Ks : List Box) (Os : List Row), Mem w w3 Ks Os → Mem w w5 Ks Os := fun Ks Os h => by rw [← hw5]; exact h.drewN _
                        have M5 := Lib.hid (e5 _ _ M4.out)
                        have cs' := M5.out.cellK 0 rfl
                        have hown := Lib.hid (M5.out.rowO 0 rfl)
                        have z5 := M5.out.base
                        clear hw5 e5 M4 cs
                        go_wp2_with (at_builtin; refine wpList_append_rd _ rfl (.tmp 129) (.tmp 131) 31 rfl w.heap.size 36 i0 _ 4 32 Try.underlying31 hi0 hy0 hy1 hy2 rfl (by omega) _ (m + 1) (sdV O) rfl (hown.out.alloc _) _ 1 1 [.int .i64 j, .int .i64 x, .int .i64 k, .int .i64 (k + 1)] rfl (rd_newR _ _ #[.int .i64 j, .int .i64 x, .int .i64 k, .int .i64 (k + 1)]) ?_ ?_ ?_ ?_ ?_)
                        · intro u hu
                          simp at hu
                          rcases hu with rfl | rfl | rfl | rfl <;> rfl
                        · unfold maxLen; omega
                        · omega
                        · simp; omega
                        intro v' w6 ho6 hg6 hat6
                        obtain ⟨B', d', rfl, _⟩ := own_shape ho6
                        rw [show sdV O ++ [.int .i64 j, .int .i64 x, .int .i64 k, .int .i64 (k + 1)] = sdV (addS O j x k (k + 1)) from by rw [HADD.out]; simp [sdV, SD.cs]] at ho6
                        have M6 := Lib.hid ((M5.out.appd hg6 ho6 hat6).delK 0)
                        clear ho6 hg6 hat6 M5 hown cs'
                        have cD : w6.cell? ⟨w1.heap.size + 1, j, none⟩ = some (.int .i64 dj) := by
                          rw [(M6.out.rowO 1 rfl).cellAt j (by omega)]
                          exact hgD.out
                        have fD := (M6.out.rowO 1 rfl).frozenAt j
                        have M7 := Lib.hid (((M6.out.upO 1 rfl).put (j := j) (.int .i64 (dj + 1))).upO 1 rfl)
                        have hlen : (addS O j x k (k + 1)).length = (m + 1) + 1 := by rw [HADD.out, List.length_append, HOL.out]; rfl
                        have HLEN := Lib.hid hlen
                        clear hlen M6
                        go_wp2
                        go_roundw
                        case rel => exact ⟨k + 1, by omega, by go_num, B', d', by rw [HN.out, HLEN.out], by rw [HN.out, HLEN.out, HROW.out]; exact M7.out⟩
                        case measure => simp [intOf]; omega
                · have HP : Hid (∀ x, x < j + 1 → readyB ts D k x = false) := by
                    intro x hx
                    by_cases hxj : x < j
                    · exact hp.out x hxj
                    · obtain rfl : x = j := by omega
                      rw [hrd.out, decide_eq_false hrdy]
                  have hrd2 : decide ((z + 1) * t.cost ≤ dj) = true := by simp; omega
                  clear hrdy
                  go_wp2
                  go_quiet (fail)
                  go_wp2
                  go_quiet (fail)
                  go_wp2
                  go_roundw
                  case rel => exact ⟨j + 1, by omega, by go_num, rfl, HP, _, rfl⟩
                  case measure => simp [intOf]; omega
              · rw [if_neg hoff] at hrd
                have HP : Hid (∀ x, x < j + 1 → readyB ts D k x = false) := by
                  intro x hx
                  by_cases hxj : x < j
                  · exact hp.out x hxj
                  · obtain rfl : x = j := by omega
                    rw [hrd.out, decide_eq_false (by omega)]
                have hoff2 : (k : Int) < t.off := by omega
                have hz0 : decide (0 * t.cost ≤ dj) = true := by simp; omega
                have hz1 : decide ((0 : Int) ≤ dj) = true := by simp; omega
                clear hoff
                go_wp2
                go_quiet (fail)
                go_wp2
                go_roundw
                case rel => exact ⟨j + 1, by omega, by go_num, rfl, HP, _, rfl⟩
                case measure => simp [intOf]; omega
            · have HN : Hid (playF ts (k + 1) = (D, O)) := HST.out.trans (step_nothing (first_none (fun x hx => hp.out x (by rw [HL.out] at hx; omega))))
              go_wp2
              go_roundw
              case rel => exact ⟨k + 1, by omega, by go_num, B, d, by rw [HN.out, HOL.out], by rw [HN.out]; rw [← HOL.out] at HM; exact HM.out.drewN q⟩
              case measure => simp [intOf]; omega
        · obtain rfl : k = U := by omega
          have c0' := HM.out.cellK 0 rfl
          have c1' := HM.out.cellK 1 rfl
          have f1' := HM.out.frozenK 1 rfl
          have hz1 := (HM.out.ltK 1 rfl).2
          have M6 := Lib.hid ((((HM.out.upK 1 rfl).set (i := 0) (.int .i64 0)).set (i := 1) (.int .i64 0)).set (i := 2) (.int .i64 0))
          go_wp2
          all_goals refine bodyPost_ret (v := .tuple #[.slice B (playF ts k).2.length d, faultV (0, 0)]) ?_ rfl ?_
          all_goals first | (simp [results, Try.results11, go_sem, c1']; done) | skip
          all_goals rw [HO.out]
          all_goals refine ⟨B, d, by simp only [Int.toNat_natCast], ?_, ?_⟩
          all_goals (try simp only [Int.toNat_natCast])
          all_goals first | exact M6.out.bel | exact M6.out.rowO 0 rfl
  · have hF : playedF ts u = ([], faultF ts) := by rw [playedF, if_neg hf]
    rw [hF]
    have hf' : ((faultF ts).1 != 0) = true := by simp [hf]
    generalize hff : faultF ts = f at hf'
    have HF := Lib.hid hff
    clear hF hf hl hff
    go_enter Try.func11, Try.ntmps11
    go_wp2_with fail
    refine (Tasked_any A n c ts _ (HR.out.alloc _)).mono ?_
    rintro e w1 ⟨rfl, hb⟩
    rw [HF.out]
    obtain ⟨k1, hb, z1⟩ := call1 hb
    have c1 := k1.cell
    have f1 := k1.frozen
    have B1 := Lib.hid hb
    clear k1 hb
    go_wp2
    go_region
    all_goals go_wp2
    all_goals refine bodyPost_ret (v := .tuple #[.slice none 0 0, faultV f]) ?_ rfl ?_
    all_goals first | (simp [results, Try.results11, go_sem, c1, z1]; done) | skip
    all_goals refine fault_p _ (below_drewN ?_ 1)
    all_goals repeat' (first | (with_reducible exact B1.out) | (with_reducible refine Below.setCell ?_ ?_ _; rotate_left; (simp <;> omega)) | (with_reducible refine Below.alloc ?_ ?_ _; rotate_left; (simp <;> omega)))
end Go.Proofs.Ythnpeekeoaiaoaa.Task
