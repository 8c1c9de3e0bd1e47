/-
  The order of tasks by tasks: numbers sorted by deadline. Conditions: the list reads.
-/
import Derived.Test.YthnpeekeoaiaoaaOrd2
import Derived.Test.YthnpeekeoaiaoaaTask7
import Derived.Test.YthnpeekeoaiaoaaTask8
import Derived.Test.YthnpeekeoaiaoaaMem
import Derived.Test.YthnpeekeoaiaoaaMake
import Derived.Test.YthnpeekeoaiaoaaApl
import Derived.RegionTactic
import Derived.BigRegion
import Derived.Deep.DeepCutAuto
namespace Go.Proofs.Ythnpeekeoaiaoaa.Task
open Go.RowKit Go.Proofs.Ythnpeekeoaiaoaa.W Go.Proofs.Ythnpeekeoaiaoaa.Ints

theorem rd_taskP (w : World) (t : TD) : Rd (w.alloc (.cells #[.string t.name, .int .i64 t.per, .int .i64 t.off, .int .i64 t.cost, .int .i64 t.dead] 42)) 5 (some ⟨w.heap.size, 0, none⟩) 1 t.cs := rd_newR _ _ _
/-- the first k numbers are laid -/
def fillV (n k : Nat) : List Value := ints (up (List.range k)) ++ ints (List.replicate (n - k) 0)
theorem fill_none (n : Nat) : fillV n 0 = ints (List.replicate n 0) := by simp [fillV, up]
theorem fill_all (n : Nat) : fillV n n = ints (up (List.range n)) := by simp [fillV]
theorem fill_at {n k : Nat} (h : k < n) : (fillV n k)[k]? = some (.int .i64 0) := by
  unfold fillV
  rw [List.getElem?_append_right (by simp [up])]
  simp [up, ints, List.getElem?_replicate]
  omega
theorem fill_set {n k : Nat} (h : k < n) : (fillV n k).set k (.int .i64 k) = fillV n (k + 1) := by
  unfold fillV
  obtain ⟨m, hm⟩ : ∃ m, n - k = m + 1 := ⟨n - k - 1, by omega⟩
  rw [hm, show n - (k + 1) = m from by omega, List.set_append, if_neg (by simp [up])]
  simp [up, ints, List.range_succ, List.replicate_succ]

set_option maxRecDepth 100000 in
set_option maxHeartbeats 6400000 in
theorem Order_any (A : Option Addr) (n c : Nat) (ts : List TD) (w : World) (hr : Rd w 5 A n (tasksV ts)) (hnc : n ≤ c) :
    Calls Try.prog 17 #[.slice A n c] w fun e w' => FreshT w w' e (orderF ts) := by
  obtain ⟨j0, hyi, hy0, hy1, hy2⟩ := info_parts task_info
  have hl := Rd.rec_len TD.len (by omega) hr
  have HR := Lib.hid hr
  clear hr
  by_cases hf : (faultF ts).1 = 0
  · obtain ⟨n1, n16, hok, hff⟩ := fault_ok hf
    have HO : Hid (orderF ts = if (respondF (permF ts (ordTo ts n))).2.1 = 0 then ((ordTo ts n).map (fun k : Nat => (k : Int)), (0, 0)) else ([], ((respondF (permF ts (ordTo ts n))).2.1, (((ordTo ts n).getD (respondF (permF ts (ordTo ts n))).2.2.toNat 0 : Nat) : Int)))) := by
      rw [Hid, orderF, if_pos hf, hl]
    have HF := Lib.hid hff
    have HK := Lib.hid hok
    have HL := Lib.hid hl
    have h16 : n ≤ 16 := by omega
    have h1 : 1 ≤ n := by omega
    generalize orderF ts = T at HO ⊢
    have HA : Hid (∀ a, A = some a → a.block < w.heap.size) := by
      intro a ha
      obtain ⟨b, o, t, e, _, hb, _⟩ := task_at HR.out (show 0 < n by omega)
      rw [ha] at e
      injection e with e
      rw [e]
      exact hb
    clear hff hok hl hf n1 n16
    go_enter Try.func17, Try.ntmps17
    go_wp2_with fail
    have M0 := ((Mem.start w).alloc 22 #[.slice A n c]).alloc 26 #[.int .i64 0, .int .i64 0, .int .i64 0]
    refine (fault_any A n c ts _ (HR.out.below M0.bel)).mono ?_
    rintro e w1 ⟨rfl, hb⟩
    rw [HF.out]
    have M1 := Lib.hid ((M0.below hb).alloc 26 #[.int .i64 0, .int .i64 0, .int .i64 0])
    clear M0
    have c1 := M1.out.cellK 0 rfl
    have c2 := M1.out.cellK 2 rfl
    have hz := (M1.out.ltK 1 rfl).2
    simp only [World.size_alloc] at hz
    clear hb
    have hmk := make_any n (by omega)
    go_upto_region 5 with fail
    have M2 : Hid (Mem w ((w1.alloc (.cells #[.int .i64 0, .int .i64 0, .int .i64 0] 26)).alloc (.cells (noughts n) 3)) [⟨w1.heap.size, 26, #[.int .i64 0, .int .i64 0, .int .i64 0]⟩, ⟨w.heap.size + 1, 26, #[.int .i64 0, .int .i64 0, .int .i64 0]⟩, ⟨w.heap.size, 22, #[.slice A n c]⟩]
        [⟨3, 1, some ⟨w1.heap.size + 1, 0, none⟩, n, n, fillV n 0⟩]) := by
      have h := M1.out.made (below_alloc (.cells (noughts n) 3)) (make_own n (by omega) _ (Nat.le_refl _))
      rw [← fill_none] at h
      simp only [World.size_alloc] at h
      exact h
    clear c1 c2 hmk M1
    generalize World.alloc _ (Obj.cells (noughts n) _ _) = W at M2 ⊢
    go_wp2
    go_loopw [6, 23] (fun _ i wr => ∃ k : Nat, k ≤ n ∧ i = .int .i64 k ∧ Hid (Mem w wr [⟨w1.heap.size, 26, #[.int .i64 0, .int .i64 0, .int .i64 0]⟩, ⟨w.heap.size + 1, 26, #[.int .i64 0, .int .i64 0, .int .i64 0]⟩, ⟨w.heap.size, 22, #[.slice A n c]⟩]
        [⟨3, 1, some ⟨w1.heap.size + 1, 0, none⟩, n, n, fillV n k⟩])) (fun _ i _ => n - (intOf i).toNat)
    case atStart => exact ⟨0, Nat.zero_le _, rfl, M2⟩
    case round =>
      clear M2
      obtain ⟨k, hk, rfl, HM⟩ := hrel
      by_cases hlt : k < n
      · have hu : wr.cell? ⟨w1.heap.size + 1, k, none⟩ = some (.int .i64 0) := by
          rw [(HM.out.rowO 0 rfl).cellAt k (by omega)]
          exact fill_at hlt
        have hfu := (HM.out.rowO 0 rfl).frozenAt k
        have hk0 : (0 : Int) ≤ (k : Int) := by omega
        have hkn : (k : Int) < (n : Int) := by omega
        go_wp2
        go_roundw
        case rel =>
          refine ⟨k + 1, by omega, by go_num, ?_⟩
          have h := HM.out.put (j := k) (.int .i64 k)
          rw [fill_set hlt] at h
          exact h
        case measure => simp [intOf]; omega
      · obtain rfl : k = n := by omega
        rw [fill_all] at HM
        have hsz := HM.out.base
        go_wp2_with fail
        refine (sort_any w.heap.size (w1.heap.size + 1) (w1.heap.size + 1) k k A c ts _ (HM.out.blkK 2 rfl) (HR.out.below HM.out.bel) HK.out (by omega) (by omega) (by omega) (fun a ha => by have := HA.out a ha; omega) (Nat.le_refl _)
          (own_rebase (HM.out.rowO 0 rfl) (fun x hx => by injection hx with hx; subst hx; exact Nat.le_refl _))).mono ?_
        rintro e w2 ⟨rfl, hg2, ho2⟩
        have M3 : Hid (Mem w w2 [⟨w1.heap.size, 26, #[.int .i64 0, .int .i64 0, .int .i64 0]⟩, ⟨w.heap.size + 1, 26, #[.int .i64 0, .int .i64 0, .int .i64 0]⟩, ⟨w.heap.size, 22, #[.slice A k c]⟩]
            [⟨42, 5, none, 0, 0, tasksV (permF ts ((ordTo ts k).take 0))⟩, ⟨3, 1, some ⟨w1.heap.size + 1, 0, none⟩, k, k, ints (up (ordTo ts k))⟩]) :=
          (HM.out.grow hg2 (own_rebase ho2 (fun x hx => by injection hx with hx; subst hx; show w.heap.size ≤ w1.heap.size + 1; omega)) (.inl rfl)).nilO _ _
        clear hg2 ho2 HM
        go_wp2
        obtain ⟨w0, hw0⟩ : ∃ w0 : World, w0 = wr := ⟨_, rfl⟩
        subst hw0
        go_loopw [7, 9, 36] (fun v7 _ i wr => ∃ j : Nat, j ≤ k ∧ i = .int .i64 j ∧ ∃ M e, v7 = .slice M j e ∧ Hid (Mem w wr [⟨w1.heap.size, 26, #[.int .i64 0, .int .i64 0, .int .i64 0]⟩, ⟨w.heap.size + 1, 26, #[.int .i64 0, .int .i64 0, .int .i64 0]⟩, ⟨w.heap.size, 22, #[.slice A k c]⟩]
            [⟨42, 5, M, j, e, tasksV (permF ts ((ordTo ts k).take j))⟩, ⟨3, 1, some ⟨w1.heap.size + 1, 0, none⟩, k, k, ints (up (ordTo ts k))⟩])) (fun _ _ i _ => k - (intOf i).toNat)
        case atStart => exact ⟨0, Nat.zero_le _, rfl, _, _, rfl, M3⟩
        case round =>
          clear M3
          obtain ⟨j, hj, rfl, M, e, rfl, HM⟩ := hrel
          by_cases hltj : j < k
          · have hjl : j < (ordTo ts k).length := by rw [ord_len]; exact hltj
            obtain ⟨b, hb⟩ : ∃ b, (ordTo ts k)[j]? = some b := ⟨_, List.getElem?_eq_getElem hjl⟩
            have hbk : b < k := (ord_mem ts k b).1 (List.mem_of_getElem? hb)
            have cb : wr.cell? ⟨w1.heap.size + 1, j, none⟩ = some (.int .i64 (b : Int)) := by
              rw [(HM.out.rowO 1 rfl).cellAt j (by omega)]
              simp [ints, up, hb]
            have cl := HM.out.cellK 2 rfl
            obtain ⟨b', o', t, rfl, ht, hbl, c0, c1, c2, c3, c4⟩ := task_at (HR.out.below HM.out.bel) hbk
            have HP := Lib.hid (perm_take_next hb ht)
            have hown := Lib.hid (HM.out.rowO 0 rfl)
            have hz := HM.out.base
            have hj0 : (0 : Int) ≤ (j : Int) := by omega
            have hjn : (j : Int) < (k : Int) := by omega
            have hb0 : (0 : Int) ≤ (b : Int) := by omega
            have hbn : (b : Int) < (k : Int) := by omega
            clear ht hbl hb
            go_wp2_with (at_builtin; refine wpList_append_rd _ rfl (.tmp 40) (.tmp 45) 22 rfl w.heap.size 42 j0 _ 5 48 Try.underlying22 hyi hy0 hy1 hy2 rfl (by omega) _ j (tasksV (permF ts ((ordTo ts k).take j))) rfl (hown.out.alloc _) _ 1 1 t.cs rfl (rd_taskP _ _) ?_ ?_ ?_ ?_ ?_)
            · intro u hu
              simp [TD.cs] at hu
              rcases hu with rfl | rfl | rfl | rfl | rfl <;> rfl
            · unfold maxLen; omega
            · omega
            · simp; omega
            intro v' w4 ho4 hg4 hat4
            obtain ⟨M', e', rfl, _⟩ := own_shape ho4
            rw [show tasksV (permF ts ((ordTo ts k).take j)) ++ t.cs = tasksV (permF ts ((ordTo ts k).take (j + 1))) from by rw [HP.out]; simp [tasksV]] at ho4
            have M6 := Lib.hid (HM.out.appd hg4 ho4 hat4)
            clear ho4 hg4 hat4 HM hown c0 c1 c2 c3 c4 cb cl
            go_wp2
            go_roundw
            case rel => exact ⟨j + 1, by omega, by go_num, M', e', rfl, M6⟩
            case measure => simp [intOf]; omega
          · obtain rfl : j = k := by omega
            have hfull : (ordTo ts j).take j = ordTo ts j := List.take_of_length_le (by rw [ord_len]; exact Nat.le_refl _)
            rw [hfull] at HM
            have hlen : (permF ts (ordTo ts j)).length = j := by
              have h := perm_ord_len ts
              rwa [HL.out] at h
            have hfo : (faultF (permF ts (ordTo ts j))).1 = 0 := by
              have ho := perm_ok (ordTo ts j) HK.out
              unfold faultF
              rw [if_neg (by omega), bad_none ho]
              rfl
            have hunit := respond_unit hfo
            have hcode := respond_codes hfo
            have HRR := Lib.hid (Respond_any M j e (permF ts (ordTo ts j)) wr (HM.out.rdO 0 rfl) (HM.out.shapeO 0 rfl).1)
            clear hfull hfo
            generalize hF : respondF (permF ts (ordTo ts j)) = F at *
            rw [hlen] at hunit
            have HU := Lib.hid hunit
            clear hlen hF hunit
            go_wp2_with fail
            refine HRR.out.mono ?_
            rintro e2 w2 ⟨A2, c2, rfl, _, hb2⟩
            have M4 := Lib.hid ((HM.out.below hb2).alloc 26 #[.int .i64 F.2.1, .int .i64 F.2.2, .int .i64 0])
            have hG1 : w.heap.size + 1 < w2.heap.size := ((HM.out.below hb2).ltK 1 rfl).2
            clear hb2 HRR HM
            go_upto_region 18 with fail
            have c0' := M4.out.cellK 0 rfl
            have f0' := M4.out.frozenK 0 rfl
            have c1' := M4.out.cellK 2 rfl
            have f1' := M4.out.frozenK 2 rfl
            have hz0 := (M4.out.ltK 0 rfl).2
            have hz1 := (M4.out.ltK 2 rfl).2
            generalize hG : w2.heap.size = G at *
            generalize World.alloc _ _ = wv at *
            have hg0 := (M4.out.ltK 0 rfl).1
            obtain ⟨u1, u2⟩ := HU.out
            obtain ⟨u, hu⟩ := Int.eq_ofNat_of_zero_le u1
            have cu : wv.cell? ⟨w1.heap.size + 1, u, none⟩ = some (.int .i64 ((ordTo ts j).getD u 0 : Nat)) := by
              have h := (M4.out.rowO 1 rfl).cellAt u (by omega)
              rw [h]
              have hlu : u < (ordTo ts j).length := by rw [ord_len]; omega
              simp [up, ints, List.getElem?_eq_getElem hlu]
            rcases hcode with ⟨hc, hc'⟩ | hc
            · have hfin : Hid (T = (up (ordTo ts j), (0, 0))) := by rw [Hid, HO.out, if_pos hc]; rfl
              have M6 := Lib.hid ((((M4.out.upK 2 rfl).set (i := 0) (.int .i64 0)).set (i := 1) (.int .i64 0)).set (i := 2) (.int .i64 0))
              clear cu hG
              rw [hc'] at c0'
              simp only at c0'
              clear hc hc'
              go_wp2
              all_goals refine bodyPost_ret (v := .tuple #[.slice (some ⟨w1.heap.size + 1, 0, none⟩) j j, faultV (0, 0)]) ?_ rfl ?_
              all_goals first | (simp [results, Try.results17, go_sem, c1']; done) | skip
              all_goals rw [hfin.out]
              all_goals refine ⟨some ⟨w1.heap.size + 1, 0, none⟩, j, by simp only [up_len, ord_len], ?_, ?_⟩
              all_goals (try simp only [up_len, ord_len])
              all_goals first | exact M6.out.bel | exact M6.out.rowO 1 rfl
            · have hc2 : (F.2.1 != 0) = true := by rw [hc]; rfl
              have hfin : Hid (T = ([], ((13 : Int), (((ordTo ts j).getD u 0 : Nat) : Int)))) := by rw [Hid, HO.out, if_neg (by rw [hc]; decide), hc, show F.2.2.toNat = u from by omega]
              have HMM := Lib.hid M4.out.bel
              generalize ((ordTo ts j).getD u 0 : Nat) = x at cu hfin
              rw [hc, hu] at c0'
              rw [hc] at hc2
              have hu0 : (0 : Int) ≤ (u : Int) := by omega
              have hul : (u : Int) < (j : Int) := by omega
              have hG1 : w.heap.size + 1 ≠ G := by omega
              have hG2 : w.heap.size ≤ G := by omega
              clear hc hu hG
              go_wp2
              go_region
              all_goals go_wp2
              all_goals refine bodyPost_ret (v := .tuple #[.slice none 0 0, faultV (13, x)]) ?_ rfl ?_
              all_goals first | (simp [results, Try.results17, go_sem, c1']; done) | skip
              all_goals rw [hfin.out]
              all_goals refine fault_t _ (below_drewN ?_ 1)
              all_goals repeat' (first | (with_reducible exact HMM.out) | (with_reducible refine Below.setCell ?_ ?_ _; rotate_left; (simp <;> omega)) | (with_reducible refine Below.alloc ?_ ?_ _; rotate_left; (simp <;> omega)))
  · have hF : orderF ts = ([], faultF ts) := by rw [orderF, if_neg hf]
    rw [hF]
    have hf' : ((faultF ts).1 != 0) = true := by simp [hf]
    generalize hff : faultF ts = f at hf'
    have HF := Lib.hid hff
    clear hF hf hl hff
    go_enter Try.func17, Try.ntmps17
    go_wp2_with fail
    have M0 := ((Mem.start w).alloc 22 #[.slice A n c]).alloc 26 #[.int .i64 0, .int .i64 0, .int .i64 0]
    refine (fault_any A n c ts _ (HR.out.below M0.bel)).mono ?_
    rintro e w1 ⟨rfl, hb⟩
    rw [HF.out]
    have M1 := Lib.hid (M0.below hb)
    clear M0
    have c1 := M1.out.cellK 0 rfl
    have f1 := M1.out.frozenK 0 rfl
    have z1 := (M1.out.ltK 0 rfl).2
    simp only [World.size_alloc] at c1 f1 z1
    have B1 := Lib.hid M1.out.bel
    clear hb
    go_wp2
    go_region
    all_goals go_wp2
    all_goals refine bodyPost_ret (v := .tuple #[.slice none 0 0, faultV f]) ?_ rfl ?_
    all_goals first | (simp [results, Try.results17, go_sem, c1, z1]; done) | skip
    all_goals refine fault_t _ (below_drewN ?_ 1)
    all_goals repeat' (first | (with_reducible exact B1.out) | (with_reducible refine Below.setCell ?_ ?_ _; rotate_left; (simp <;> omega)) | (with_reducible refine Below.alloc ?_ ?_ _; rotate_left; (simp <;> omega)))
end Go.Proofs.Ythnpeekeoaiaoaa.Task
