/-
  The reference's order of tasks: each time the one with the least deadline of those that are left. Conditions: the list reads.
-/
import Derived.Test.YthnpeekeoaiaoaaOrd2
import Derived.Test.YthnpeekeoaiaoaaTask8
import Derived.Test.YthnpeekeoaiaoaaMem
import Derived.Test.YthnpeekeoaiaoaaApl
import Derived.Laws.MakeOwn
import Derived.Laws.OwnMore
import Derived.RegionTactic
import Derived.BigRegion
import Derived.Deep.DeepCutAuto
namespace Go.Proofs.Ythnpeekeoaiaoaa.Task
open Go.RowKit Go.Proofs.Ythnpeekeoaiaoaa.W Go.Proofs.Ythnpeekeoaiaoaa.Ints

theorem bool_info : (Try.prog.info? 4).map (fun i => (i.zero, i.size, i.bytes)) = some (some (.bool false), 1, 1) := by kernel_rfl
def falses (n : Nat) : Array Value := madeCells #[.bool false] n
theorem falses_list (n : Nat) : (falses n).toList = List.replicate n (Value.bool false) := by
  unfold falses
  rw [toList_madeCells_one]
theorem make_bools (n : Nat) (hn : n * 8 ≤ 140737488351232) (w : World) :
    (Instr.makeSlice 45 (.int .i64 (n : Int)) (.int .i64 (n : Int))).run Try.prog w = .ok (.slice (some ⟨w.heap.size, 0, none⟩) n n) (w.alloc (.cells (falses n) 4)) := by
  obtain ⟨i0, hi0, hz0, hz1, hz2⟩ := info_parts bool_info
  have h := run_make (P := Try.prog) w 45 4 i0 (.bool false) Try.underlying45 hi0 hz0 .i64 .i64 (n : Int) (n : Int) (by omega) (Int.le_refl _) (by rw [hz2]; omega) (by omega)
  rw [hz1] at h
  simp only [Int.toNat_natCast, Nat.mul_one] at h
  rw [h]
  rfl
theorem bools_own (n : Nat) (hn : n * 8 ≤ 140737488351232) (w : World) :
    (w.alloc (.cells (falses n) 4)).ownsRow w.heap.size 4 1 (.slice (some ⟨w.heap.size, 0, none⟩) n n) n (List.replicate n (Value.bool false)) := by
  rw [← falses_list]
  exact World.ownsRow_lit w _ n (Nat.le_refl _) (by unfold maxLen; omega) (by simp [falses, size_madeCells])

/-- which of n are used -/
def usedV (n : Nat) (U : List Nat) : List Value := (List.range n).map fun i => Value.bool (decide (i ∈ U))
theorem used_none (n : Nat) : usedV n [] = List.replicate n (Value.bool false) := by
  simp only [usedV, List.not_mem_nil, decide_false]
  exact List.ext_getElem? (fun i => by simp [List.getElem?_replicate, List.getElem?_map]; split <;> simp_all)
theorem used_at {n : Nat} {U : List Nat} {j : Nat} (h : j < n) : (usedV n U)[j]? = some (.bool (decide (j ∈ U))) := by simp [usedV, h]
theorem used_set {n : Nat} {U : List Nat} {b : Nat} : (usedV n U).set b (.bool true) = usedV n (U ++ [b]) := by
  apply List.ext_getElem?
  intro i
  by_cases hi : i < n
  · by_cases hb : b = i
    · subst hb
      rw [List.getElem?_set_self (by simpa [usedV] using hi), used_at hi]
      simp
    · rw [List.getElem?_set_ne hb, used_at hi, used_at hi]
      simp [Ne.symm hb]
  · rw [List.getElem?_eq_none (by simp [usedV]; omega), List.getElem?_eq_none (by simp [usedV]; omega)]

theorem rd_task (w : World) (t : TD) : Rd (w.alloc (.cells #[.string t.name, .int .i64 t.per, .int .i64 t.off, .int .i64 t.cost, .int .i64 t.dead] 42)) 5 (some ⟨w.heap.size, 0, none⟩) 1 t.cs := rd_newR _ _ _

set_option maxRecDepth 100000 in
set_option maxHeartbeats 6400000 in
theorem OrderR_any (A : Option Addr) (n c : Nat) (ts : List TD) (w : World) (hr : Rd w 5 A n (tasksV ts)) :
    Calls Try.prog 16 #[.slice A n c] w fun e w' => FreshT w w' e (orderF ts) := by
  obtain ⟨i0, hi0, hz0, hz1, hz2⟩ := info_parts int_info
  obtain ⟨j0, hyi, hy0, hy1, hy2⟩ := info_parts task_info
  have hl := Rd.rec_len TD.len (by omega) hr
  have HR := Lib.hid hr
  clear hr
  by_cases hf : (faultF ts).1 = 0
  · obtain ⟨n1, n16, hok, hff⟩ := fault_ok hf
    have HO : Hid (orderF ts = if (respondF (permF ts (ordTo ts n))).2.1 = 0 then ((ordTo ts n).map (fun k : Nat => (k : Int)), (0, 0)) else ([], ((respondF (permF ts (ordTo ts n))).2.1, (((ordTo ts n).getD (respondF (permF ts (ordTo ts n))).2.2.toNat 0 : Nat) : Int)))) := by
      rw [Hid, orderF, if_pos hf, hl]
    have HF := Lib.hid hff
    have HK := Lib.hid hok
    have HL := Lib.hid hl
    have h16 : n ≤ 16 := by omega
    have h1 : 1 ≤ n := by omega
    generalize orderF ts = T at HO ⊢
    clear hff hok hl hf n1 n16
    go_enter Try.func16, Try.ntmps16
    go_wp2_with fail
    refine (Tasked_any A n c ts _ (HR.out.alloc _)).mono ?_
    rintro e w1 ⟨rfl, hb⟩
    rw [HF.out]
    have M1 := Lib.hid ((((Mem.start w).alloc 26 #[.int .i64 0, .int .i64 0, .int .i64 0]).below hb).alloc 26 #[.int .i64 0, .int .i64 0, .int .i64 0])
    have c1 := M1.out.cellK 0 rfl
    have hz := (M1.out.ltK 1 rfl).2
    simp only [World.size_alloc] at hz
    clear hb
    have hmk := make_bools n (by omega)
    go_wp2
    have M2 : Hid (Mem w ((w1.alloc (.cells #[.int .i64 0, .int .i64 0, .int .i64 0] 26)).alloc (.cells (falses n) 4)) [⟨w1.heap.size, 26, #[.int .i64 0, .int .i64 0, .int .i64 0]⟩, ⟨w.heap.size, 26, #[.int .i64 0, .int .i64 0, .int .i64 0]⟩]
        [⟨3, 1, none, 0, 0, ints (up ((ordTo ts n).take 0))⟩, ⟨42, 5, none, 0, 0, tasksV (permF ts ((ordTo ts n).take 0))⟩, ⟨4, 1, some ⟨w1.heap.size + 1, 0, none⟩, n, n, usedV n ((ordTo ts n).take 0)⟩]) := by
      have h := M1.out.made (below_alloc (.cells (falses n) 4)) (bools_own n (by omega) _)
      rw [← used_none] at h
      simp only [World.size_alloc] at h
      exact (h.nilO _ _).nilO _ _
    clear c1 hmk M1
    generalize World.alloc _ (Obj.cells (falses n) _ _) = W at M2 ⊢
    go_loopw [5, 7, 8, 9] (fun v5 v7 _ _ wr => ∃ k : Nat, k ≤ n ∧ ∃ B d M e, v5 = .slice B k d ∧ v7 = .slice M k e ∧ Hid (Mem w wr [⟨w1.heap.size, 26, #[.int .i64 0, .int .i64 0, .int .i64 0]⟩, ⟨w.heap.size, 26, #[.int .i64 0, .int .i64 0, .int .i64 0]⟩]
        [⟨3, 1, B, k, d, ints (up ((ordTo ts n).take k))⟩, ⟨42, 5, M, k, e, tasksV (permF ts ((ordTo ts n).take k))⟩, ⟨4, 1, some ⟨w1.heap.size + 1, 0, none⟩, n, n, usedV n ((ordTo ts n).take k)⟩])) (fun v _ _ _ _ => n - (match v with | .slice _ k _ => k | _ => 0))
    case atStart => exact ⟨0, Nat.zero_le _, _, _, _, _, rfl, rfl, M2⟩
    case round =>
      clear M2
      obtain ⟨k, hk, B, d, M, e, rfl, rfl, HM⟩ := hrel
      by_cases hlt : k < n
      · go_wp2
        obtain ⟨w0, hw0⟩ : ∃ w0 : World, w0 = wr := ⟨_, rfl⟩
        subst hw0
        go_loopw [8, 9] (fun b i wr => ∃ j : Nat, j ≤ n ∧ i = .int .i64 j ∧ b = .int .i64 (bestTo ts ((ordTo ts n).take k) j) ∧ ∃ q, wr = w0.drewN q) (fun _ i _ => n - (intOf i).toNat)
        case atStart => exact ⟨0, Nat.zero_le _, rfl, rfl, 0, rfl⟩
        case round =>
          obtain ⟨j, hj, rfl, rfl, q, rfl⟩ := hrel
          have hbest := best_is ts ((ordTo ts n).take k) j
          have hnext := best_next ts ((ordTo ts n).take k) j
          by_cases hltj : j < n
          · obtain ⟨b, o, t, rfl, ht, hbl, c0, c1, c2, c3, c4⟩ := task_at (HR.out.below HM.out.bel) hltj
            have hu : w0.cell? ⟨w1.heap.size + 1, j, none⟩ = some (.bool (decide (j ∈ (ordTo ts n).take k))) := by
              rw [(HM.out.rowO 2 rfl).cellAt j (by omega)]
              exact used_at hltj
            have hj0 : (0 : Int) ≤ (j : Int) := by omega
            have hjn : (j : Int) < (n : Int) := by omega
            have hdt := dl_at ht
            clear c0 c1 c2 c3 ht hbl
            generalize hU : (ordTo ts n).take k = U at *
            by_cases hm : j ∈ U
            · rw [decide_eq_true hm] at hu
              rw [if_neg (fun h => h.1 hm)] at hnext
              generalize bestTo ts U j = bv at *
              have HNX := Lib.hid hnext
              have HDT := Lib.hid hdt
              have HBE := Lib.hid hbest
              have HM' := Lib.hid hm
              clear hnext hdt hbest hm
              go_wp2
              go_quiet (fail)
              go_wp2
              go_roundw
              case rel => exact ⟨j + 1, by omega, by go_num, by rw [HNX.out], _, rfl⟩
              case measure => simp [intOf]; omega
            · rw [decide_eq_false hm] at hu
              rcases hbest with ⟨e, _⟩ | ⟨x, e, hx, _, _⟩
              · rw [e, if_pos ⟨hm, .inl (by omega)⟩] at hnext
                rw [e]
                have HNX := Lib.hid hnext
                have HDT := Lib.hid hdt
                have HM' := Lib.hid hm
                clear hnext hdt e hm
                go_wp2
                go_quiet (fail)
                go_wp2
                go_roundw
                case rel => exact ⟨j + 1, by omega, by go_num, by rw [HNX.out], _, rfl⟩
                case measure => simp [intOf]; omega
              · obtain ⟨b', o', t', e', ht', hbl', d0, d1, d2, d3, d4⟩ := task_at (HR.out.below HM.out.bel) (show x < n by omega)
                injection e' with e'
                injection e' with e1 e2
                subst e1 e2
                have hdx := dl_at ht'
                have hx0 : (0 : Int) ≤ (x : Int) := by omega
                have hxn : (x : Int) < (n : Int) := by omega
                have hxx : ¬ ((x : Int) < 0) := by omega
                have hxf : decide ((x : Int) < 0) = false := by simp
                rw [e] at hnext ⊢
                simp only [Int.toNat_natCast, hdt, hdx, hxx, false_or] at hnext
                clear d0 d1 d2 d3 ht' hbl' e hdx hdt
                by_cases hlt' : t.dead < t'.dead
                · rw [if_pos ⟨hm, hlt'⟩] at hnext
                  have HNX := Lib.hid hnext
                  have HM' := Lib.hid hm
                  clear hnext hm
                  go_wp2
                  go_quiet (fail)
                  go_wp2
                  go_roundw
                  case rel => exact ⟨j + 1, by omega, by go_num, by rw [HNX.out], _, rfl⟩
                  case measure => simp [intOf]; omega
                · rw [if_neg (fun h => hlt' h.2)] at hnext
                  have HNX := Lib.hid hnext
                  have HM' := Lib.hid hm
                  have hge : decide (t.dead < t'.dead) = false := decide_eq_false hlt'
                  clear hnext hm
                  go_wp2
                  go_quiet (fail)
                  go_wp2
                  go_roundw
                  case rel => exact ⟨j + 1, by omega, by go_num, by rw [HNX.out], _, rfl⟩
                  case measure => simp [intOf]; omega
          · obtain rfl : j = n := by omega
            obtain ⟨b, hb1, hb2, hb3, hb4⟩ := best_ord ts hlt
            rw [hb1]
            have M3 := Lib.hid (HM.out.drewN q)
            have hj0 : (0 : Int) ≤ (b : Int) := by omega
            have hjn : (b : Int) < (j : Int) := by omega
            have hord : (ordTo ts j).take (k + 1) = (ordTo ts j).take k ++ [b] := by
              have h := List.getElem?_eq_some_iff.1 hb4
              rw [List.take_succ_eq_append_getElem h.1, h.2]
            have HORD := Lib.hid hord
            have HB4 := Lib.hid hb4
            clear hbest hnext hb1 hb3 hb4 hord HM
            generalize w0.drewN q = wq at M3 ⊢
            have hu : wq.cell? ⟨w1.heap.size + 1, b, none⟩ = some (.bool (decide (b ∈ (ordTo ts j).take k))) := by
              rw [(M3.out.rowO 2 rfl).cellAt b (by omega)]
              exact used_at hb2
            have hfu := (M3.out.rowO 2 rfl).frozenAt b
            have M4 := Lib.hid ((M3.out.upO 2 rfl).put (j := b) (.bool true))
            clear M3
            go_upto_region 15 with fail
            generalize World.setCell _ _ _ = wv at M4 ⊢
            have z4 := M4.out.base
            have hown4 := Lib.hid (M4.out.rowO 1 rfl)
            clear hu hfu
            go_wp2_with (at_builtin; refine wpList_append_rd _ rfl (.tmp 56) (.tmp 58) 23 rfl w.heap.size 3 i0 _ 1 8 Try.underlying23 hi0 hz0 hz1 hz2 rfl (by omega) _ k (ints (up ((ordTo ts j).take k))) rfl (hown4.out.alloc _) _ 1 1 [.int .i64 b] rfl (rd_new _ _ _) ?_ ?_ ?_ ?_ ?_)
            · simp [Value.oneCell']
            · unfold maxLen; omega
            · omega
            · simp; omega
            intro v' w3 ho3 hg3 hat3
            obtain ⟨B', d', rfl, _⟩ := own_shape ho3
            rw [show ints (up ((ordTo ts j).take k)) ++ [Value.int .i64 b] = ints (up ((ordTo ts j).take (k + 1))) from by rw [HORD.out]; simp [up]] at ho3
            have M5 := Lib.hid ((M4.out.upO 1 rfl).appd hg3 ho3 hat3)
            have z5 := M5.out.base
            clear ho3 hg3 hat3 M4 hown4
            obtain ⟨b', o', t, rfl, ht, hbl, c0, c1, c2, c3, c4⟩ := task_at (HR.out.below M5.out.bel) hb2
            have hown5 := Lib.hid (M5.out.rowO 2 rfl)
            have hP := perm_take_next HB4.out ht
            have HP := Lib.hid hP
            clear ht hbl hP
            go_wp2_with (at_builtin; refine wpList_append_rd _ rfl (.tmp 60) (.tmp 65) 22 rfl w.heap.size 42 j0 _ 5 48 Try.underlying22 hyi hy0 hy1 hy2 rfl (by omega) _ k (tasksV (permF ts ((ordTo ts j).take k))) rfl (hown5.out.alloc _) _ 1 1 t.cs rfl (rd_task _ _) ?_ ?_ ?_ ?_ ?_)
            · intro u hu
              simp [TD.cs] at hu
              rcases hu with rfl | rfl | rfl | rfl | rfl <;> rfl
            · unfold maxLen; omega
            · omega
            · simp; omega
            intro v' w4 ho4 hg4 hat4
            obtain ⟨M', e', rfl, _⟩ := own_shape ho4
            rw [show tasksV (permF ts ((ordTo ts j).take k)) ++ t.cs = tasksV (permF ts ((ordTo ts j).take (k + 1))) from by rw [HP.out]; simp [tasksV]] at ho4
            have M6 := Lib.hid ((M5.out.upO 2 rfl).appd hg4 ho4 hat4)
            clear ho4 hg4 hat4 M5 hown5 c0 c1 c2 c3 c4
            go_wp2
            go_roundw
            case rel =>
              refine ⟨k + 1, by omega, B', d', M', e', rfl, rfl, ?_⟩
              have h := M6.out.upO 1 rfl
              rw [used_set, ← HORD.out] at h
              exact h
            case measure => simp <;> omega
      · obtain rfl : k = n := by omega
        have hfull : (ordTo ts k).take k = ordTo ts k := List.take_of_length_le (by rw [ord_len]; exact Nat.le_refl _)
        rw [hfull] at HM
        have hlen : (permF ts (ordTo ts k)).length = k := by
          have h := perm_ord_len ts
          rwa [HL.out] at h
        have hfo : (faultF (permF ts (ordTo ts k))).1 = 0 := by
          have ho := perm_ok (ordTo ts k) HK.out
          unfold faultF
          rw [if_neg (by omega), bad_none ho]
          rfl
        have hunit := respond_unit hfo
        have hcode := respond_codes hfo
        have HRR := Lib.hid (RespondR_any M k e (permF ts (ordTo ts k)) wr (HM.out.rdO 1 rfl))
        clear hfull hfo
        generalize hF : respondF (permF ts (ordTo ts k)) = F at *
        rw [hlen] at hunit
        have HFF := Lib.hid hF
        have HU := Lib.hid hunit
        clear hlen hF hunit
        go_wp2_with fail
        refine HRR.out.mono ?_
        rintro e2 w2 ⟨A2, c2, rfl, _, hb2⟩
        have M3 := Lib.hid (HM.out.below hb2)
        clear hb2 HRR HM
        have M4 := Lib.hid (((M3.out.set (i := 0) (.int .i64 F.2.1)).set (i := 1) (.int .i64 F.2.2)).set (i := 2) (.int .i64 0))
        have c2' := M3.out.cellK 0 rfl
        have f2' := M3.out.frozenK 0 rfl
        go_upto_region 18 with fail
        generalize World.setCell _ _ _ = wv at M4 ⊢
        have M5 : Hid (Mem w wv [⟨w1.heap.size, 26, #[.int .i64 F.2.1, .int .i64 F.2.2, .int .i64 0]⟩, ⟨w.heap.size, 26, #[.int .i64 0, .int .i64 0, .int .i64 0]⟩]
          [⟨3, 1, B, k, d, ints (up (ordTo ts k))⟩, ⟨42, 5, M, k, e, tasksV (permF ts (ordTo ts k))⟩, ⟨4, 1, some ⟨w1.heap.size + 1, 0, none⟩, k, k, usedV k (ordTo ts k)⟩]) := M4.out
        clear M4 M3 c2' f2'
        have c0' := M5.out.cellK 0 rfl
        have f0' := M5.out.frozenK 0 rfl
        have c1' := M5.out.cellK 1 rfl
        have f1' := M5.out.frozenK 1 rfl
        obtain ⟨u1, u2⟩ := HU.out
        obtain ⟨u, hu⟩ := Int.eq_ofNat_of_zero_le u1
        obtain ⟨g, rfl, hg1, hg2⟩ := M5.out.head (by omega)
        have cu : wv.cell? ⟨g, u, none⟩ = some (.int .i64 ((ordTo ts k).getD u 0 : Nat)) := by
          have h := (M5.out.rowO 0 rfl).cellAt u (by omega)
          rw [h]
          have hlu : u < (ordTo ts k).length := by rw [ord_len]; omega
          simp [up, ints, List.getElem?_eq_getElem hlu]
        have hz0 := (M5.out.ltK 0 rfl).2
        have hz1 := (M5.out.ltK 1 rfl).2
        rcases hcode with ⟨hc, hc'⟩ | hc
        · have hfin : Hid (T = (up (ordTo ts k), (0, 0))) := by rw [Hid, HO.out, if_pos hc]; rfl
          have MM := M5.out.bel
          have HMM := Lib.hid MM
          have M6 := Lib.hid ((((M5.out.upK 1 rfl).set (i := 0) (.int .i64 0)).set (i := 1) (.int .i64 0)).set (i := 2) (.int .i64 0))
          clear MM cu
          rw [hc'] at c0'
          simp only at c0'
          clear hc hc'
          go_wp2
          go_region
          all_goals go_wp2
          all_goals refine bodyPost_ret (v := .tuple #[.slice (some ⟨g, 0, none⟩) k d, faultV (0, 0)]) ?_ rfl ?_
          all_goals first | (simp [results, Try.results16, go_sem, c1']; done) | skip
          all_goals rw [hfin.out]
          all_goals refine ⟨some ⟨g, 0, none⟩, d, by simp only [up_len, ord_len], ?_, ?_⟩
          all_goals (try simp only [up_len, ord_len])
          all_goals first | exact M6.out.drew.bel | exact M6.out.drew.rowO 0 rfl
        · have hc2 : (F.2.1 != 0) = true := by rw [hc]; rfl
          have hfin : Hid (T = ([], ((13 : Int), (((ordTo ts k).getD u 0 : Nat) : Int)))) := by rw [Hid, HO.out, if_neg (by rw [hc]; decide), hc, show F.2.2.toNat = u from by omega]
          have HMM := Lib.hid M5.out.bel
          generalize ((ordTo ts k).getD u 0 : Nat) = x at cu hfin
          rw [hc, hu] at c0'
          rw [hc] at hc2
          have hu0 : (0 : Int) ≤ (u : Int) := by omega
          have hul : (u : Int) < (k : Int) := by omega
          clear hc hu
          go_wp2
          go_region
          all_goals go_wp2
          all_goals refine bodyPost_ret (v := .tuple #[.slice none 0 0, faultV (13, x)]) ?_ rfl ?_
          all_goals first | (simp [results, Try.results16, go_sem, c1']; done) | skip
          all_goals rw [hfin.out]
          all_goals refine fault_t _ (below_drewN ?_ 1)
          all_goals repeat' (first | (with_reducible exact HMM.out) | (with_reducible refine Below.setCell ?_ ?_ _; rotate_left; (simp <;> omega)) | (with_reducible refine Below.alloc ?_ ?_ _; rotate_left; (simp <;> omega)))
  · have hF : orderF ts = ([], faultF ts) := by rw [orderF, if_neg hf]
    rw [hF]
    have hf' : ((faultF ts).1 != 0) = true := by simp [hf]
    generalize hff : faultF ts = f at hf'
    have HF := Lib.hid hff
    clear hF hf hl hff
    go_enter Try.func16, Try.ntmps16
    go_wp2_with fail
    refine (Tasked_any A n c ts _ (HR.out.alloc _)).mono ?_
    rintro e w1 ⟨rfl, hb⟩
    rw [HF.out]
    obtain ⟨k1, hb, z1⟩ := call1 hb
    have c1 := k1.cell
    have f1 := k1.frozen
    have B1 := Lib.hid hb
    clear k1 hb
    go_wp2
    go_region
    all_goals go_wp2
    all_goals refine bodyPost_ret (v := .tuple #[.slice none 0 0, faultV f]) ?_ rfl ?_
    all_goals first | (simp [results, Try.results16, go_sem, c1, z1]; done) | skip
    all_goals refine fault_t _ (below_drewN ?_ 1)
    all_goals repeat' (first | (with_reducible exact B1.out) | (with_reducible refine Below.setCell ?_ ?_ _; rotate_left; (simp <;> omega)) | (with_reducible refine Below.alloc ?_ ?_ _; rotate_left; (simp <;> omega)))
end Go.Proofs.Ythnpeekeoaiaoaa.Task
