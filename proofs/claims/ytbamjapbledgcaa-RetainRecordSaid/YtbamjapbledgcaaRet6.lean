/-
  retain's Record: what the reference answers. Conditions: the words read, within the reach.
-/
import Derived.Test.YtbamjapbledgcaaRet5
namespace Go.Proofs.Ytbamjapbledgcaa.Ret
open Go.RowKit Go.Proofs.Ytbamjapbledgcaa.W Go.Proofs.Ytbamjapbledgcaa.Ints Go.Proofs.Ytbamjapbledgcaa.Byt Go.Proofs.Ytbamjapbledgcaa.Num

theorem words_take {zs : List Int} {k : Nat} (h : k < zs.length) : wordsB (zs.take (k + 1)) = wordsB (zs.take k) ++ fourB (zs.getD k 0).toNat := by
  unfold wordsB
  rw [List.take_succ_eq_append_getElem h, List.flatMap_append]
  congr 1
  simp [List.getD_eq_getElem?_getD, List.getElem?_eq_getElem h]
theorem good_at {zs : List Int} (h : zs.all goodB = true) {k : Nat} (hk : k < zs.length) : 0 ≤ zs.getD k 0 ∧ zs.getD k 0 ≤ 4294967295 := by
  rw [List.all_eq_true] at h
  have := h zs[k] (List.getElem_mem hk)
  simp [List.getD_eq_getElem?_getD, List.getElem?_eq_getElem hk]
  simpa [goodB] using this

theorem rd_behind {w : World} {b n m : Nat} {xs ys : List Value} (h : Rd w 1 (some ⟨b, 0, none⟩) (n + m) (xs ++ ys)) (hx : xs.length = n) (hn : 0 < n) : Rd w 1 (some ⟨b, n, none⟩) m ys := by
  have hl := h.1
  simp at hl
  refine ⟨by omega, fun _ => ⟨b, n, rfl, fun j u hu => ?_⟩⟩
  have := rd_holds h (by omega) (n + j) u (by rw [List.getElem?_append_right (by omega)]; rw [← hu]; congr 1; omega)
  rw [Nat.zero_add] at this
  exact this
set_option maxRecDepth 100000 in
set_option maxHeartbeats 3200000 in
theorem Record_any (s : Int) (A : Option Addr) (n c : Nat) (zs : List Int) (w : World) (hr : Rd w 1 A n (ints zs)) (hn : n * 8 ≤ 140737488351232) :
    Calls Try.prog 5 #[.slice A n c, .int .i64 s] w fun e w' => FreshB w w' e (recordF zs s) := by
  have hl := rd_len hr
  have HR := Lib.hid hr
  by_cases h2000 : 2000 < n
  · have hF : recordF zs s = ([], 4) := by simp [recordF, hl, h2000]
    rw [hF]
    clear hF hl hr
    go_enter Try.func5, Try.ntmps5
    go_wp2
    go_ret2
    exact fault_b 4 (Below.refl _ _)
  · have hF : recordF zs s = if (zs.all goodB && goodB s) = true then (recB zs s.toNat, 0) else ([], 3) := by simp [recordF, hl, h2000]
    have HF := Lib.hid hF
    have HL := Lib.hid hl
    generalize hT : recordF zs s = T
    have HT := Lib.hid hT
    clear hF hl hr hT
    cases hall : zs.all goodB
    · have hT2 : T = ([], 3) := by rw [← HT.out, HF.out, hall]; simp
      have HT2 := Lib.hid hT2
      have HA := Lib.hid hall
      clear hT2 hall
      go_enter Try.func5, Try.ntmps5
      go_wp2_with fail
      refine (ContainsFunc_any A n c zs _ HR.out (by unfold maxLen; omega)).mono ?_
      rintro e w1 ⟨rfl, rfl⟩
      rw [HA.out]
      go_wp2
      go_ret2
      rw [HT2.out]
      exact fault_b 3 (Below.refl _ _)
    · cases hsg : goodB s
      · have hT2 : T = ([], 3) := by rw [← HT.out, HF.out, hall, hsg]; simp
        have HT2 := Lib.hid hT2
        have HA := Lib.hid hall
        have HSG := Lib.hid hsg
        clear hT2 hall hsg
        go_enter Try.func5, Try.ntmps5
        go_wp2_with fail
        refine (ContainsFunc_any A n c zs _ HR.out (by unfold maxLen; omega)).mono ?_
        rintro e w1 ⟨rfl, rfl⟩
        rw [HA.out]
        go_wp2_with fail
        refine (out_any s _).mono ?_
        rintro e w1 ⟨rfl, rfl⟩
        rw [HSG.out]
        go_wp2
        go_ret2
        rw [HT2.out]
        exact fault_b 3 (Below.refl _ _)
      · have hT2 : T = (recB zs s.toNat, 0) := by rw [← HT.out, HF.out, hall, hsg]; simp
        have hs : 0 ≤ s ∧ s ≤ 4294967295 := by simpa [goodB] using hsg
        have HSG := Lib.hid hsg
        obtain ⟨x, rfl⟩ := Int.eq_ofNat_of_zero_le hs.1
        simp only [Int.toNat_natCast] at hT2
        have HT2 := Lib.hid hT2
        have HA := Lib.hid hall
        clear hT2 hall hsg HT HF
        go_enter Try.func5, Try.ntmps5
        go_wp2_with fail
        refine (ContainsFunc_any A n c zs _ HR.out (by unfold maxLen; omega)).mono ?_
        rintro e w1 ⟨rfl, rfl⟩
        rw [HA.out]
        go_wp2_with fail
        refine (out_any (x : Int) _).mono ?_
        rintro e w1 ⟨rfl, rfl⟩
        rw [HSG.out]
        go_wp2_with fail
        refine (magic_any _).mono ?_
        rintro e w2 ⟨rfl, hb2⟩
        have z2 := hb2.size
        have B2 := Lib.hid (hb2.trans ((below_alloc (.cells #[.int .u8 80, .int .u8 87, .int .u8 82, .int .u8 49] 35)).mono z2))
        have R2 := Lib.hid (rd_blk (Blk.new w2 35 #[.int .u8 80, .int .u8 87, .int .u8 82, .int .u8 49]) (us := byts [80, 87, 82, 49]) rfl rfl)
        clear hb2
        go_wp2_with fail
        refine (CloneB_any ⟨w2.heap.size, 0, none⟩ 4 4 [80, 87, 82, 49] _ R2.out (by omega)).mono ?_
        rintro e w3 ⟨A3, c3, rfl, o3, hb3⟩
        simp only [World.size_alloc] at o3
        have z3 := hb3.size
        simp only [World.size_alloc] at z3
        obtain ⟨_, _, _, _, _, _, rg3⟩ := own_shape o3
        have ng3 : Hid (∀ a, A3 = some a → a.block ≠ w3.heap.size) := fun a ha => by
          obtain ⟨A', c', he, _, _, _, hr3⟩ := own_shape o3
          injection he with ea _ ec
          have := hr3 a (by rw [← ea]; exact ha)
          omega
        obtain ⟨Q0, hQ0⟩ : ∃ Q : List UInt8, Q = [80, 87, 82, 49] := ⟨_, rfl⟩
        rw [← hQ0] at o3
        have HQ0 := Lib.hid hQ0
        have O3 := Lib.hid ((own_below (own_weaken o3 (show w.heap.size ≤ w2.heap.size + 1 by omega)) (below_alloc (.cells #[.slice A3 4 c3] 37))))
        have K3 := Lib.hid (Blk.new w3 37 #[.slice A3 4 c3])
        have B3 := Lib.hid ((B2.out.trans (hb3.mono (by simp; omega))).alloc (show w.heap.size ≤ w3.heap.size by omega) (.cells #[.slice A3 4 c3] 37))
        clear o3 hb3 rg3 hQ0 B2 R2
        obtain ⟨g0, hg⟩ : ∃ g, g = w3.heap.size := ⟨_, rfl⟩
        have hg0 : w.heap.size ≤ g0 := by omega
        rw [← hg] at K3 ng3
        have HGG := Lib.hid hg
        have hxw : (x : Int) % 4294967296 = (x : Int) := by omega
        have hnw : (n : Int) % 4294967296 = (n : Int) := by omega
        go_wp2_with fail
        rw [← hg]
        refine (number_any g0 A3 4 c3 Q0 x w.heap.size _ K3.out O3.out ng3.out (by omega) (by simp; omega) hg0 (by omega)).mono ?_
        rintro e w4 ⟨rfl, A4, c4, k4, o4, n4, b4⟩
        have z4 := b4.size
        simp only [World.size_alloc] at z4
        have K4 := Lib.hid k4
        have N4 := Lib.hid n4
        have B4 := Lib.hid (B3.out.trans b4)
        obtain ⟨Q1, hQ1⟩ : ∃ Q, Q = Q0 ++ fourB x := ⟨_, rfl⟩
        rw [← hQ1] at o4
        have HQ1 := Lib.hid hQ1
        have O4 := Lib.hid o4
        clear hg k4 n4 o4 b4 hQ1 K3 O3 ng3 B3
        go_wp2_with fail
        refine (number_any g0 A4 8 c4 Q1 n w.heap.size _ K4.out O4.out N4.out (by omega) (by omega) hg0 (by omega)).mono ?_
        rintro e w5 ⟨rfl, A5, c5, k5, o5, n5, b5⟩
        have z5 := b5.size
        have K5 := Lib.hid k5
        have N5 := Lib.hid n5
        have B5 := Lib.hid (B4.out.trans b5)
        obtain ⟨Q2, hQ2⟩ : ∃ Q, Q = Q1 ++ fourB n := ⟨_, rfl⟩
        rw [← hQ2] at o5
        have HQ2 : Hid (Q2 = headB x zs.length) := by rw [hQ2, HQ1.out, HQ0.out, HL.out]; exact (rfl : _ = headB x n)
        have O5 := Lib.hid o5
        have d5 := k5.cell 0
        have e5 := k5.frozen 0
        simp at d5
        clear k5 n5 o5 b5 hQ2 K4 O4 N4 B4
        go_wp2_with fail
        refine (sum_any A5 12 c5 Q2 _ (Rd.own O5.out) (by unfold maxLen; omega)).mono ?_
        rintro e f6 ⟨rfl, rfl⟩
        have hcs := sum_lt Q2
        generalize hC1 : sumB Q2 = C1 at hcs
        have HC1 := Lib.hid hC1
        clear hC1
        go_wp2_with fail
        refine (number_any g0 A5 12 c5 Q2 C1 w.heap.size _ K5.out O5.out N5.out hcs (by omega) hg0 (by omega)).mono ?_
        rintro e w6 ⟨rfl, A6, c6, k6, o6, n6, b6⟩
        have z6 := b6.size
        have K6 := Lib.hid k6
        have N6 := Lib.hid n6
        have B6 := Lib.hid (B5.out.trans b6)
        obtain ⟨Q3, hQ3⟩ : ∃ Q, Q = Q2 ++ fourB C1 := ⟨_, rfl⟩
        rw [← hQ3] at o6
        have HQ3 := Lib.hid hQ3
        have O6 := Lib.hid o6
        clear k6 n6 o6 b6 hQ3 K5 O5 N5 B5 d5 e5
        go_wp2
        go_loopw [42] (fun i wr => ∃ k : Nat, k ≤ n ∧ i = .int .i64 k ∧ ∃ A c, Hid (Blk wr g0 37 #[.slice A (16 + 4 * k) c]) ∧ Hid (wr.ownsRow w.heap.size 5 1 (.slice A (16 + 4 * k) c) (16 + 4 * k) (byts (Q3 ++ wordsB (zs.take k)))) ∧ Hid (∀ a, A = some a → a.block ≠ g0) ∧ Hid (Below w.heap.size w wr)) (fun i _ => n - (intOf i).toNat)
        case atStart => exact ⟨0, Nat.zero_le _, rfl, A6, c6, K6, by simpa [wordsB] using O6, N6, B6⟩
        case round =>
          clear K6 O6 N6 B6
          obtain ⟨k, hk, rfl, A7, c7, K7, O7, N7, B7⟩ := hrel
          have z7 := B7.out.size
          have g7 := K7.out.lt
          by_cases hlt : k < n
          · obtain ⟨b, o, rfl, hc⟩ := rd_at (HR.out.below B7.out) (by omega)
            have h1 := hc k hlt
            have HWT := Lib.hid (words_take (zs := zs) (k := k) (by rw [HL.out]; exact hlt))
            have hgd := good_at HA.out (k := k) (by rw [HL.out]; exact hlt)
            clear hc
            generalize hu : zs.getD k 0 = u at h1 HWT hgd
            clear hu
            obtain ⟨y, rfl⟩ := Int.eq_ofNat_of_zero_le hgd.1
            simp only [Int.toNat_natCast] at HWT
            have hyw : (y : Int) % 4294967296 = (y : Int) := by omega
            go_wp2_with fail
            refine (number_any g0 A7 (16 + 4 * k) c7 (Q3 ++ wordsB (zs.take k)) y w.heap.size _ K7.out O7.out N7.out (by omega) (by omega) hg0 (by omega)).mono ?_
            rintro e w8 ⟨rfl, A8, c8, k8, o8, n8, b8⟩
            have e16 : 16 + 4 * k + 4 = 16 + 4 * (k + 1) := by omega
            rw [e16] at k8 o8
            rw [List.append_assoc, ← HWT.out] at o8
            have K8 := Lib.hid k8
            have N8 := Lib.hid n8
            have O8 := Lib.hid o8
            have B8 := Lib.hid (B7.out.trans b8)
            clear k8 n8 o8 b8 e16 HWT K7 O7 N7 B7
            go_wp2
            go_roundw
            case rel => exact ⟨k + 1, by omega, by go_num, A8, c8, K8, O8, N8, B8⟩
            case measure => simp [intOf]; omega
          · have hkn : k = n := by omega
            have htk : zs.take k = zs := List.take_of_length_le (by rw [HL.out]; omega)
            rw [htk] at O7
            obtain ⟨wq, hwq⟩ : ∃ wq : World, wq = wr := ⟨_, rfl⟩
            subst hwq
            obtain ⟨gb, rfl, hgb1, hgb2⟩ := own_head O7.out (by omega)
            obtain ⟨_, _, _, hc16, hcm, _, _⟩ := own_shape O7.out
            have hc16' : 16 + 4 * k ≤ c7 := by
              obtain ⟨A', c', he, h1, _⟩ := own_shape O7.out
              injection he with _ _ ec
              omega
            have hq16 : (byts Q3).length = 16 := by
              have := O7.out.1
              simp only [byts, List.map_append, List.length_append, List.length_map, words_len, HL.out] at this ⊢
              omega
            have RW : Rd wq 1 (some ⟨gb, 16, none⟩) (4 * k) (byts (wordsB zs)) := by
              have h := Rd.own O7.out
              rw [show byts (Q3 ++ wordsB zs) = byts Q3 ++ byts (wordsB zs) by simp [byts]] at h
              exact rd_behind h hq16 (by omega)
            have HRW := Lib.hid RW
            have d7 := K7.out.cell 0
            have e7 := K7.out.frozen 0
            simp at d7
            clear RW htk hq16 hcm hkn
            have HRW2 : Hid (∀ A, c7 = 16 → Rd wq 1 A (4 * k) (byts (wordsB zs))) := fun A h => ⟨HRW.out.1, fun h2 => by omega⟩
            have hcb := sum_lt (wordsB zs)
            generalize hC2 : sumB (wordsB zs) = C2 at hcb
            have HC2 := Lib.hid hC2
            have HLK : Hid (k = n) := Lib.hid (by omega)
            clear hC2
            by_cases hce : c7 = 16
            all_goals go_wp2_with fail
            · refine (sum_any _ (4 * k) _ (wordsB zs) _ (HRW2.out _ hce) (by unfold maxLen; omega)).mono ?_
              rintro e f8 ⟨rfl, rfl⟩
              rw [HC2.out]
              go_wp2_with fail
              refine (number_any g0 (some ⟨gb, 0, none⟩) (16 + 4 * k) _ (Q3 ++ wordsB zs) C2 w.heap.size _ K7.out O7.out N7.out hcb (by omega) hg0 (by omega)).mono ?_
              rintro e w9 ⟨rfl, A9, c9, k9, o9, n9, b9⟩
              have hrec : recB zs x = Q3 ++ wordsB zs ++ fourB C2 := by rw [HQ3.out, ← HC1.out, ← HC2.out, HQ2.out]; rfl
              have hlen : (recB zs x).length = 16 + 4 * k + 4 := by rw [hrec, HQ3.out, HQ2.out]; have := HLK.out; simp only [List.length_append, head_len, four_len, words_len, HL.out]; omega
              have d9 := k9.cell 0
              have e9 := k9.frozen 0
              simp at d9
              have HRC := Lib.hid hrec
              have HLN := Lib.hid hlen
              have O9 := Lib.hid o9
              have B9 := Lib.hid (B7.out.trans b9)
              clear hrec hlen k9 o9 n9 b9 d7 e7
              go_wp2
              go_ret2
              rw [HT2.out]
              refine ⟨A9, c9, ?_, ?_, B9.out⟩
              · simp only [HLN.out]; rfl
              · show w9.ownsRow w.heap.size 5 1 (.slice A9 (recB zs x).length c9) (recB zs x).length (byts (recB zs x))
                rw [HLN.out, HRC.out]
                exact O9.out
            · refine (sum_any (some ⟨gb, 16, none⟩) (4 * k) (c7 - 16) (wordsB zs) _ HRW.out (by unfold maxLen; omega)).mono ?_
              rintro e f8 ⟨rfl, rfl⟩
              rw [HC2.out]
              go_wp2_with fail
              refine (number_any g0 (some ⟨gb, 0, none⟩) (16 + 4 * k) _ (Q3 ++ wordsB zs) C2 w.heap.size _ K7.out O7.out N7.out hcb (by omega) hg0 (by omega)).mono ?_
              rintro e w9 ⟨rfl, A9, c9, k9, o9, n9, b9⟩
              have hrec : recB zs x = Q3 ++ wordsB zs ++ fourB C2 := by rw [HQ3.out, ← HC1.out, ← HC2.out, HQ2.out]; rfl
              have hlen : (recB zs x).length = 16 + 4 * k + 4 := by rw [hrec, HQ3.out, HQ2.out]; have := HLK.out; simp only [List.length_append, head_len, four_len, words_len, HL.out]; omega
              have d9 := k9.cell 0
              have e9 := k9.frozen 0
              simp at d9
              have HRC := Lib.hid hrec
              have HLN := Lib.hid hlen
              have O9 := Lib.hid o9
              have B9 := Lib.hid (B7.out.trans b9)
              clear hrec hlen k9 o9 n9 b9 d7 e7
              go_wp2
              go_ret2
              rw [HT2.out]
              refine ⟨A9, c9, ?_, ?_, B9.out⟩
              · simp only [HLN.out]; rfl
              · show w9.ownsRow w.heap.size 5 1 (.slice A9 (recB zs x).length c9) (recB zs x).length (byts (recB zs x))
                rw [HLN.out, HRC.out]
                exact O9.out
end Go.Proofs.Ytbamjapbledgcaa.Ret
