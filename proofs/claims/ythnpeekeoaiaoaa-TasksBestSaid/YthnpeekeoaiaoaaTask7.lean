/-
  How long jobs take, by tasks. Conditions: the list reads.
-/
import Derived.Test.YthnpeekeoaiaoaaTask6
import Derived.Deep.QuietTactic
import Derived.BigQuiet
namespace Go.Proofs.Ythnpeekeoaiaoaa.Task
open Go.RowKit Go.Proofs.Ythnpeekeoaiaoaa.W Go.Proofs.Ythnpeekeoaiaoaa.Ints

set_option maxRecDepth 100000 in
set_option maxHeartbeats 6400000 in
theorem Respond_any (A : Option Addr) (n c : Nat) (ts : List TD) (w : World) (hr : Rd w 5 A n (tasksV ts)) (hnc : n ≤ c) :
    Calls Try.prog 10 #[.slice A n c] w fun e w' => FreshT w w' e (respondF ts) := by
  obtain ⟨i0, hi0, hz0, hz1, hz2⟩ := info_parts int_info
  have hl := Rd.rec_len TD.len (by omega) hr
  have HR := Lib.hid hr
  clear hr
  by_cases hf : (faultF ts).1 = 0
  · obtain ⟨n1, n16, hok, hff⟩ := fault_ok hf
    have hF : respondF ts = match slowAt ts with | some j => ([], (13, (j : Int))) | none => (outTo ts n, (0, 0)) := by
      rw [respondF, if_pos hf, hl]
      cases slowAt ts <;> rfl
    generalize hT : respondF ts = T at hF ⊢
    have HT := Lib.hid hF
    have HF := Lib.hid hff
    have HK := Lib.hid hok
    have HL := Lib.hid hl
    have h16 : n ≤ 16 := by omega
    have h1 : 1 ≤ n := by omega
    clear hT hF hff hok hl hf n1 n16
    go_enter Try.func10, Try.ntmps10
    go_wp2_with fail
    refine (fault_any A n c ts _ (HR.out.alloc _)).mono ?_
    rintro e w1 ⟨rfl, hb⟩
    rw [HF.out]
    obtain ⟨k1, hb, z1⟩ := call1 hb
    have K1 := Lib.hid (k1.alloc (.cells #[.int .i64 0, .int .i64 0, .int .i64 0] 26))
    have B1 := Lib.hid (hb.alloc (Nat.le_of_lt z1) (.cells #[.int .i64 0, .int .i64 0, .int .i64 0] 26))
    clear k1 hb
    go_wp2
    generalize hW : w1.alloc _ = W at *
    have hz : w.heap.size < W.heap.size := by rw [← hW]; simp; omega
    clear hW z1
    go_loopw [5, 6, 7, 8, 9, 10, 12, 21] (fun v _ _ _ _ _ _ i wr => ∃ k : Nat, k ≤ n ∧ i = .int .i64 k ∧ ∃ B d, v = .slice B k d ∧ Hid (wr.ownsRow W.heap.size 3 1 (.slice B k d) k (ints (outTo ts k))) ∧ Hid (Below w.heap.size w wr) ∧ Hid (Blk wr w.heap.size 26 #[.int .i64 0, .int .i64 0, .int .i64 0]) ∧ Hid (W.heap.size ≤ wr.heap.size) ∧ Hid (∀ j, j < k → (respAt ts j).isSome = true)) (fun _ _ _ _ _ _ _ i _ => n - (intOf i).toNat)
    case atStart => exact ⟨0, Nat.zero_le _, rfl, _, _, rfl, World.ownsRow_nil _ _ _ _, B1, K1, Nat.le_refl _, fun j hj => by omega⟩
    case round =>
      clear K1 B1
      obtain ⟨k, hk, rfl, B, d, rfl, ho, hb, hkk, hzz, hp⟩ := hrel
      have c0' := hkk.out.cell
      have f0' := hkk.out.frozen
      have hbl0 := hkk.out.lt
      have hzz' := hzz.out
      by_cases hlt : k < n
      · obtain ⟨b, o, t, rfl, ht, hbl, c0, c1, c2, c3, c4⟩ := task_at (HR.out.below hb.out) hlt
        have hra : respAt ts k = respF ts t k := by simp only [respAt, ht]
        obtain ⟨p1, p2, p3, p4, p5, p6, _⟩ := ok_parts (get_ok HK.out ht)
        have hmono := need_mono HK.out t k
        have hbd := fun r => @need_bd ts HK.out t (get_ok HK.out ht) k (by rw [HL.out]; omega) r
        have h0 := hbd t.cost (by omega) (by omega)
        have HA := Lib.hid ht
        have HRA := Lib.hid hra
        have HM := Lib.hid hmono
        have HBD := Lib.hid hbd
        have H0 := Lib.hid h0
        clear ht hra hmono hbd h0
        have hk0 : (0 : Int) ≤ (k : Int) := by omega
        have hkn : (k : Int) < (n : Int) := by omega
        obtain ⟨D, hD⟩ := Int.eq_ofNat_of_zero_le (show 0 ≤ t.dead by omega)
        have hfd : Hid (respF ts t k = leastF (needF ts t k) D) := by rw [Hid, respF, show t.dead.toNat = D from by omega]
        have hsl : (k : Int) ≤ (c : Int) := by omega
        go_wp2
        obtain ⟨w0, hw0⟩ : ∃ w0 : World, w0 = wr := ⟨_, rfl⟩
        subst hw0
        generalize hV : w0.alloc _ = V
        have kt : Blk V w0.heap.size 42 #[.string t.name, .int .i64 t.per, .int .i64 t.off, .int .i64 t.cost, .int .i64 (D : Int)] := by rw [← hV]; exact Blk.new w0 _ _
        have kb : Below w0.heap.size w0 V := by rw [← hV]; exact below_alloc _
        have KT := Lib.hid kt
        have KB := Lib.hid kb
        have HRV := Lib.hid ((HR.out.below hb.out).below kb)
        have hzv := kt.lt
        clear hV kt kb c0 c1 c2 c3 c4 c0' f0' hbl
        go_loopw [8, 9, 10, 12, 41] (fun r g _ _ _ wv => ∃ x : Int, r = .int .i64 x ∧ 1 ≤ x ∧ x ≤ 16000001000000 ∧ Hid (Below V.heap.size V wv) ∧ ((g = .bool true ∧ Hid ((∀ y, 1 ≤ y → y < x → y < needF ts t k y) ∧ (x ≤ (D : Int) → x ≤ needF ts t k x))) ∨ (g = .bool false ∧ x ≤ (D : Int) ∧ Hid (leastF (needF ts t k) D = some x)))) (fun r g _ _ _ _ => (D + 1 - intOf r).toNat * 2 + (match g with | .bool true => 1 | _ => 0))
        case atStart =>
          refine ⟨t.cost, rfl, by omega, by omega, Below.refl _ _, .inl ⟨rfl, fun y h1 h2 => ?_, fun _ => H0.out.2.1⟩⟩
          have := HBD.out y (by omega) (by omega)
          omega
        case round =>
          obtain ⟨x, rfl, x1, x2, hvb, hrest⟩ := hrel
          have kt := KT.out.below hvb.out
          have ct := kt.cell
          have zt := kt.lt
          have zv := hvb.out.size
          rcases hrest with ⟨rfl, hinv⟩ | ⟨rfl, hxD, hL⟩
          · by_cases hle : x ≤ (D : Int)
            · have hy := HBD.out x (by omega) (by omega)
              have hyy : x ≤ needF ts t k x := hinv.out.2 hle
              have hN : Hid (needF ts t k x = t.cost + sumF x (ts.take k)) := rfl
              clear kt
              go_wp2
              obtain ⟨wo, hwo⟩ : ∃ wo : World, wo = wr := ⟨_, rfl⟩
              subst hwo
              go_loopw [10, 12, 41] (fun v _ i wi => ∃ j : Nat, j ≤ k ∧ i = .int .i64 j ∧ v = .int .i64 (t.cost + sumF x (ts.take j)) ∧ Hid (Below V.heap.size V wi)) (fun _ _ i _ => k - (intOf i).toNat)
              case atStart => exact ⟨0, Nat.zero_le _, rfl, by simp [sumF], hvb⟩
              case round =>
                obtain ⟨j, hj, rfl, rfl, hib⟩ := hrel
                have hs := sum_bd (show 0 ≤ x by omega) (show x ≤ 1000000 by omega) _ (all_take_ok j HK.out)
                have hlen : (ts.take j).length ≤ 16 := by have := List.length_take_le j ts; omega
                have hb1 : 0 ≤ sumF x (ts.take j) := hs.1
                have hb2 : sumF x (ts.take j) ≤ 16000000000000 := by have := hs.2; omega
                clear hs hlen
                by_cases hltj : j < k
                · obtain ⟨b', o', a, e, ha', hbla, d0, d1, d2, d3, d4⟩ := task_at (HRV.out.below hib.out) (show j < n by omega)
                  injection e with e
                  injection e with e1 e2
                  subst e1 e2
                  obtain ⟨u1, u2, u3, u4, _⟩ := ok_parts (get_ok HK.out ha')
                  have HN := Lib.hid (need_next x ha')
                  obtain ⟨ub1, ub2⟩ := up_bd u1 (show 0 ≤ x by omega)
                  have hm : upF x a.per * a.cost ≤ 1000000 * 1000000 := Int.mul_le_mul (by omega) (by omega) (by omega) (by omega)
                  have hm0 : 0 ≤ upF x a.per * a.cost := Int.mul_nonneg ub1 (by omega)
                  have hue : (x + a.per - 1) / a.per = upF x a.per := rfl
                  have zi := hib.out.size
                  have hjk : (j : Int) < (k : Int) := by omega
                  clear ha'
                  generalize sumF x (ts.take j) = S at hb1 hb2 HN
                  go_wp2
                  go_quiet (fail)
                  go_wp2
                  go_roundw
                  case rel => exact ⟨j + 1, by omega, by go_num, by rw [HN.out, ← Int.add_assoc], below_drewN (hib.out.alloc zi _) _⟩
                  case measure => simp [intOf]; omega
                · obtain rfl : j = k := by omega
                  have zi := hib.out.size
                  have hN' : t.cost + sumF x (ts.take j) = needF ts t j x := rfl
                  rw [hN']
                  generalize hyv : needF ts t j x = y at hy hyy
                  have HY := Lib.hid hyv
                  clear hyv hN' hb1 hb2
                  by_cases he : y = x
                  · have he1 : y ≤ x := by omega
                    have hL : Hid (leastF (needF ts t j) D = some y) := by
                      rw [Hid, he]
                      exact least_some x1 hle (by rw [HY.out, he]; exact Int.le_refl _) hinv.out.1
                    clear he
                    go_wp2
                    go_roundw
                    case rel => exact ⟨y, rfl, by omega, by omega, hib, .inr ⟨by first | rfl | (simp; omega), by omega, hL⟩⟩
                    case measure =>
                      have : decide (x < y) = false := by simp; omega
                      rw [this]
                      have : y = x := by omega
                      rw [this]
                      simp
                  · have he1 : x < y := by omega
                    have hI : Hid ((∀ z, 1 ≤ z → z < y → z < needF ts t j z) ∧ (y ≤ (D : Int) → y ≤ needF ts t j y)) := by
                      have h1 := step_none HM.out hinv.out.1
                      have h2 := HM.out x y (by omega)
                      rw [HY.out] at h1 h2
                      exact ⟨h1, fun _ => h2⟩
                    clear he
                    go_wp2
                    go_roundw
                    case rel => exact ⟨y, rfl, by omega, by omega, hib, .inl ⟨by first | rfl | (simp; omega), hI⟩⟩
                    case measure =>
                      simp [intOf]
                      omega
            · have hR : Hid (respAt ts k = none) := by
                rw [Hid, HRA.out, hfd.out]
                exact least_none (fun y h1 h2 => hinv.out.1 y h1 (by omega))
              have hfin : Hid (T = ([], (13, (k : Int)))) := by rw [Hid, HT.out, slow_some (by rw [HL.out]; exact hlt) hR.out hp.out]
              have hle' : (D : Int) < x := by omega
              have k2 := (hkk.out.below KB.out).below hvb.out
              have B2 := Lib.hid ((hb.out.trans (KB.out.mono hb.out.size)).trans (hvb.out.mono (by omega)))
              have c0' := k2.cell
              have f0' := k2.frozen
              clear k2 hle kt
              go_wp2
              refine bodyPost_ret (v := .tuple #[.slice none 0 0, faultV (13, k)]) ?_ rfl ?_
              · simp [results, Try.results10, go_sem, c0']
              · rw [hfin.out]
                refine fault_t _ ?_
                repeat' (first | (with_reducible exact B2.out) | (with_reducible refine Below.setCell ?_ ?_ _; rotate_left; (simp <;> omega)))
          · have hRR : respAt ts k = some x := by rw [HRA.out, hfd.out]; exact hL.out
            have HN := Lib.hid (out_next ts k hRR)
            have HS : Hid ((respAt ts k).isSome = true) := by rw [Hid, hRR]; rfl
            have k2 := (hkk.out.below KB.out).below hvb.out
            have B2 := Lib.hid ((hb.out.trans (KB.out.mono hb.out.size)).trans (hvb.out.mono (by omega)))
            have O2 := Lib.hid (own_below (own_below ho.out KB.out) hvb.out)
            have K2 := Lib.hid k2
            have c0' := k2.cell
            have f0' := k2.frozen
            clear k2 hRR kt
            go_wp2_with (at_builtin; refine wpList_append_rd _ rfl (.tmp 69) (.tmp 71) 23 rfl W.heap.size 3 i0 _ 1 8 Try.underlying23 hi0 hz0 hz1 hz2 rfl (by omega) _ k (ints (outTo ts k)) rfl (O2.out.alloc _) _ 1 1 [.int .i64 x] rfl (rd_new _ _ _) ?_ ?_ ?_ ?_ ?_)
            · simp [Value.oneCell']
            · unfold maxLen; omega
            · omega
            · simp; omega
            intro v' w3 ho3 hg3 hat3
            obtain ⟨B', d', rfl, _⟩ := own_shape ho3
            have hrow : ∀ g, (Value.slice B k d).ownBlock = some g → W.heap.size ≤ g := fun g hg => (O2.out.lt g hg).1
            have hb3 : Below w.heap.size w w3 := (B2.out.alloc (by omega) _).trans (Grow.below hg3 (by simp; omega) (fun g hg => by have := hrow g hg; omega))
            have k3 : Blk w3 w.heap.size 26 #[.int .i64 0, .int .i64 0, .int .i64 0] := (K2.out.alloc _).grown hg3 (fun e => by have := hrow _ e.symm; omega)
            have z3 := hg3.size
            simp only [World.size_alloc] at z3
            rw [show ints (outTo ts k) ++ [Value.int .i64 x] = ints (outTo ts (k + 1)) from by rw [HN.out]; simp] at ho3
            have HO3 := Lib.hid ho3
            have HB3 := Lib.hid hb3
            have HK3 := Lib.hid k3
            have HZ3 : Hid (W.heap.size ≤ w3.heap.size) := by rw [Hid]; omega
            have HP3 : Hid (∀ j, j < k + 1 → (respAt ts j).isSome = true) := fun j hj => by
              rcases Nat.lt_or_ge j k with h | h
              · exact hp.out j h
              · obtain rfl : j = k := by omega
                exact HS.out
            clear ho3 hg3 hat3 hb3 k3 hrow z3
            go_wp2
            go_roundw
            case rel => exact ⟨k + 1, by omega, by go_num, B', d', rfl, HO3, HB3, HK3, HZ3, HP3⟩
            case measure => simp [intOf]; omega
      · obtain rfl : k = n := by omega
        have hfin : Hid (T = (outTo ts k, (0, 0))) := by rw [Hid, HT.out, slow_none (by rw [HL.out]; exact hp.out)]
        go_wp2
        refine bodyPost_ret (v := .tuple #[.slice B k d, faultV (0, 0)]) ?_ rfl ?_
        · simp [results, Try.results10, go_sem, c0']
        · rw [hfin.out]
          refine ⟨B, d, by simp only [out_len], ?_, ?_⟩
          · simp only [out_len]
            refine own_weaken (base := W.heap.size) ?_ (by omega)
            repeat' (first | (with_reducible exact ho.out) | (with_reducible refine ownsRow_setCell_below ?_ ?_ _; rotate_left; (simp <;> omega)))
          · repeat' (first | (with_reducible exact hb.out) | (with_reducible refine Below.setCell ?_ ?_ _; rotate_left; (simp <;> omega)))
  · have hF : respondF ts = ([], faultF ts) := by rw [respondF, if_neg hf]
    rw [hF]
    have hf' : ((faultF ts).1 != 0) = true := by simp [hf]
    generalize hff : faultF ts = f at hf'
    have HF := Lib.hid hff
    clear hF hf hl hff
    go_enter Try.func10, Try.ntmps10
    go_wp2_with fail
    refine (fault_any A n c ts _ (HR.out.alloc _)).mono ?_
    rintro e w1 ⟨rfl, hb⟩
    rw [HF.out]
    obtain ⟨k1, hb, z1⟩ := call1 hb
    have c1 := k1.cell
    have f1 := k1.frozen
    have B1 := Lib.hid hb
    clear k1 hb
    go_wp2
    go_region
    all_goals go_wp2
    all_goals refine bodyPost_ret (v := .tuple #[.slice none 0 0, faultV f]) ?_ rfl ?_
    all_goals first | (simp [results, Try.results10, go_sem, c1, z1]; done) | skip
    all_goals refine fault_t _ (below_drewN ?_ 1)
    all_goals repeat' (first | (with_reducible exact B1.out) | (with_reducible refine Below.setCell ?_ ?_ _; rotate_left; (simp <;> omega)) | (with_reducible refine Below.alloc ?_ ?_ _; rotate_left; (simp <;> omega)))
end Go.Proofs.Ythnpeekeoaiaoaa.Task
