/-
  The frame of words by the reference: the same. Conditions: the words read, within the reach.
-/
import Derived.Test.YtdncdmibmopilaaFrm2
import Derived.Deep.RegionHeld3
import Derived.Deep.AppendLies
import Derived.Outline
namespace Go.Proofs.Ytdncdmibmopilaa.Bus
open Go.RowKit Go.Proofs.Ytdncdmibmopilaa.W Go.Proofs.Ytdncdmibmopilaa.Ints Go.Proofs.Ytdncdmibmopilaa.Num Go.Proofs.Ytdncdmibmopilaa.Byt

theorem lt_of_rd {w : World} {b o n : Nat} {xs : List Value} (h : Rd w 1 (some ⟨b, o, none⟩) n xs) (hn : 0 < n) : b < w.heap.size := by
  obtain ⟨b', o', e, hc⟩ := h.2 hn
  injection e with e
  injection e with e1 e2
  subst e1
  have hl := h.1
  exact lt_of_cell (hc 0 _ (List.getElem?_eq_getElem (by omega)))
theorem two_byts' {bs : List UInt8} {x : Nat} (_h : x < 65536) : byts bs ++ [.int .u8 ((x : Int) % 256 % 256), .int .u8 ((x : Int) / 256 % 256)] = byts (bs ++ two x) := by
  simp [byts, two, lo8, hi8]

set_option maxHeartbeats 3200000 in
theorem FrameR_any (st seq : Int) (A : Option Addr) (n c : Nat) (zs : List Int) (w : World) (hr : Rd w 1 A n (ints zs)) (hn : n * 8 ≤ 140737488351232) :
    Calls Try.prog 20 #[.int .i64 st, .int .i64 seq, .slice A n c] w fun e w' => FreshB w w' e (frameF st seq zs) := by
  obtain ⟨i0, hi0, hz0, hz1, hz2⟩ := info_parts u8_info
  have hl := rd_len hr
  have HR := Lib.hid hr
  clear hr
  by_cases hg : 0 ≤ st ∧ st ≤ 247 ∧ 0 ≤ seq ∧ seq ≤ 255
  · obtain ⟨g1, g2, g3, g4⟩ := hg
    by_cases hs : speltE zs = 0
    · rw [show frameF st seq zs = (frameB st.toNat seq.toNat zs, 0) from by simp [frameF, g1, g2, g3, g4, hs]]
      obtain ⟨s, rfl⟩ := Int.eq_ofNat_of_zero_le g1
      obtain ⟨q, rfl⟩ := Int.eq_ofNat_of_zero_le g3
      obtain ⟨h60, hz⟩ := spelt_ok hs
      have HS := Lib.hid hs
      have HL := Lib.hid hl
      have HZ := Lib.hid hz
      have h60' : n ≤ 60 := by omega
      simp only [Int.toNat_natCast]
      clear hs hl hz h60
      go_enter Try.func20, Try.ntmps20
      go_wp2_with fail
      refine (spelt_any A n c zs _ HR.out (by unfold maxLen; omega)).mono ?_
      rintro e w' ⟨rfl, rfl⟩
      rw [HS.out]
      go_wp2
      have HB0 := Lib.hid (below_alloc (w := w) (.cells #[.int .u8 (s : Int), .int .u8 (q : Int), .int .u8 (n : Int)] 5))
      have HO0 : Hid ((w.alloc (.cells #[.int .u8 (s : Int), .int .u8 (q : Int), .int .u8 (n : Int)] 5)).ownsRow w.heap.size 5 1 (.slice (some ⟨w.heap.size, 0, none⟩) (3 + 2 * 0) 3) (3 + 2 * 0) (byts (headB s q n ++ wordsB (zs.take 0)))) := by
        have h := World.ownsRow_lit (base := w.heap.size) (e := 5) (size := 1) w #[.int .u8 (s : Int), .int .u8 (q : Int), .int .u8 (n : Int)] 3 (Nat.le_refl _) (by unfold maxLen; omega) rfl
        have e : byts (headB s q n ++ wordsB (zs.take 0)) = [.int .u8 (s : Int), .int .u8 (q : Int), .int .u8 (n : Int)] := by
          simp [byts, headB, wordsB, lo8]
          omega
        rw [e]
        exact h
      go_loopw [9, 10] (fun b i wr => ∃ k : Nat, k ≤ n ∧ i = .int .i64 k ∧ ∃ B d, b = .slice B (3 + 2 * k) d ∧ Hid (wr.ownsRow w.heap.size 5 1 (.slice B (3 + 2 * k) d) (3 + 2 * k) (byts (headB s q n ++ wordsB (zs.take k)))) ∧ Hid (Below w.heap.size w wr)) (fun _ i _ => n - (intOf i).toNat)
      case atStart => exact ⟨0, Nat.zero_le _, rfl, _, _, rfl, HO0, HB0⟩
      case round =>
        clear HO0 HB0
        obtain ⟨k, hk, rfl, B, d, rfl, HO, HB⟩ := hrel
        by_cases hlt : k < n
        · obtain ⟨b, o, rfl, hc⟩ := rd_at (HR.out.below HB.out) (by omega)
          have h1 := hc k hlt
          have h2 := HZ.out k (by rw [HL.out]; exact hlt)
          have HW := Lib.hid (words_take (zs := zs) (k := k) (by rw [HL.out]; exact hlt))
          clear hc
          generalize hu : zs.getD k 0 = u at h1 h2 HW
          clear hu
          obtain ⟨h2a, h2b⟩ := h2
          obtain ⟨x, rfl⟩ := Int.eq_ofNat_of_zero_le h2a
          simp only [Int.toNat_natCast] at HW
          have hbs := HB.out.size
          go_wp2_with fail
          have hne := (HO.out.lt)
          have hbl : b < w.heap.size := lt_of_rd HR.out (by omega)
          have hfar : (Value.slice B (3 + 2 * k) d).ownBlock ≠ some b := fun e => by have := (HO.out.lt b e).1; omega
          clear hne
          have q1 : IntKind.i64.wrap ((x : Int) / 256) = (x : Int) / 256 := by simp [IntKind.wrap, IntKind.bits, IntKind.signed]; omega
          have q2 : IntKind.u8.wrap ((x : Int) / 256) = (x : Int) / 256 := by simp [IntKind.wrap, IntKind.bits, IntKind.signed]; omega
          have q3 : IntKind.u8.wrap ((x : Int).tmod 256) = (x : Int) % 256 := by rw [Int.tmod_eq_emod_of_nonneg (by omega)]; simp [IntKind.wrap, IntKind.bits, IntKind.signed]
          go_region_held3 (fun w' => w'.cell? ⟨b, o + k, none⟩ = some (.int .i64 (x : Int)))
            (first | go_keep | (rw [hgrow.cell_far _ (by simp; omega) (Ne.symm hfar)]; assumption))
            ((refine step_append_lies _ (by rfl) _ _ _ (by rfl) w.heap.size 5 i0 _ 1 1 Try.underlying31 hi0 hz0 hz1 hz2 rfl (by omega) (.slice B (3 + 2 * k) d) (3 + 2 * k) _ (by rfl) ((HO.out.alloc _).drew) ⟨wr.heap.size, 0, none⟩ 2 2 [.int .u8 ((x : Int) % 256), .int .u8 ((x : Int) / 256)] (by rfl) (by rfl) (World.news_of_block (cs := #[.int .u8 ((x : Int) % 256), .int .u8 ((x : Int) / 256)]) (t := 5) (fr := (0, 0)) (heap_alloc_new wr _)) (by simp [Value.oneCell']) (by omega) (by unfold maxLen; omega) (by omega) (by simp; omega) (wr.heap.size + 1) (by simp) ?_; intro gg cap w1 hown1 hgrow hat hlt))
          have hb1 : Below w.heap.size w w1 := by
            refine (below_drewN (HB.out.alloc hbs _) 1).trans (Grow.below hgrow (by simp; omega) ?_)
            intro g hg
            have := (HO.out.lt g hg).1
            exact this
          rw [two_byts (by omega), List.append_assoc, ← HW.out] at hown1
          have HO1 := Lib.hid hown1
          have HB1 := Lib.hid hb1
          clear hown1 hb1 hgrow hat q1 q2 q3
          go_wp2
          go_roundw
          case rel => exact ⟨k + 1, by omega, by go_num, _, _, rfl, HO1, HB1⟩
          case measure => simp [intOf]; omega
        · obtain rfl : k = n := by omega
          have hbo : byts (headB s q k ++ wordsB (zs.take k)) = byts (bodyB s q zs) := by
            rw [List.take_of_length_le (by rw [HL.out]; omega)]
            simp only [bodyB, HL.out]
          have ho := HO.out
          rw [hbo] at ho
          have HO2 := Lib.hid ho
          have hbs := HB.out.size
          have hcl := crc_lt (bodyB s q zs)
          clear ho hbo HO
          go_wp2_with fail
          refine (CRC16_any B (3 + 2 * k) d (bodyB s q zs) _ (Rd.own HO2.out) (by unfold maxLen; omega)).mono ?_
          rintro e w' ⟨rfl, rfl⟩
          generalize hC : crc (bodyB s q zs) = C at hcl
          have HC := Lib.hid hC
          clear hC
          have hfl := frame_len s q zs
          rw [HL.out] at hfl
          have HF := Lib.hid hfl
          clear hfl
          go_wp2_with (at_builtin; refine wpList_append_rd _ rfl (.tmp 62) (.tmp 69) 31 rfl w.heap.size 5 i0 _ 1 1 Try.underlying31 hi0 hz0 hz1 hz2 rfl (by omega) _ (3 + 2 * k) (byts (bodyB s q zs)) rfl (HO2.out.alloc _) _ 2 2 [.int .u8 ((C : Int) % 256), .int .u8 ((C : Int) / 256)] rfl (rd_blk (Blk.new _ _ _) rfl rfl) ?_ ?_ ?_ ?_ ?_)
          · simp [Value.oneCell']
          · unfold maxLen; omega
          · omega
          · simp; omega
          · intro v' w1 ho1 hg1 hat1
            obtain ⟨B', d', rfl, _⟩ := own_shape ho1
            have hb1 : Below w.heap.size w w1 := by
              refine (HB.out.alloc hbs _).trans (Grow.below hg1 (by simp; omega) ?_)
              intro g hg
              have := (HO2.out.lt g hg).1
              exact this
            rw [two_byts hcl] at ho1
            have HO1 := Lib.hid ho1
            have HB1 := Lib.hid hb1
            clear ho1 hb1 hg1 hat1
            go_wp2
            go_ret2
            refine ⟨B', d', ?_, ?_, HB1.out⟩
            · simp only [HF.out]
              rw [show 5 + 2 * k = 3 + 2 * k + 2 from by omega]
              rfl
            · have h := HO1.out
              rw [← HC.out] at h
              simp only [HF.out]
              rw [show 5 + 2 * k = 3 + 2 * k + 2 from by omega]
              exact h
    · rw [show frameF st seq zs = ([], speltE zs) from by simp [frameF, g1, g2, g3, g4, hs]]
      have hs' : (speltE zs != 0) = true := by simp [hs]
      clear hs hl
      go_enter Try.func20, Try.ntmps20
      go_wp2_with fail
      refine (spelt_any A n c zs _ HR.out (by unfold maxLen; omega)).mono ?_
      rintro e w' ⟨rfl, rfl⟩
      go_wp2
      go_ret2
      exact fault_b _ (Below.refl _ _)
  · rw [show frameF st seq zs = ([], 3) from by simp [frameF, hg]]
    clear hl
    have hg : (st < 0) ∨ (0 ≤ st ∧ 247 < st) ∨ (0 ≤ st ∧ st ≤ 247 ∧ seq < 0) ∨ (0 ≤ st ∧ st ≤ 247 ∧ 0 ≤ seq ∧ 255 < seq) := by omega
    rcases hg with h1 | ⟨h1, h2⟩ | ⟨h1, h2, h3⟩ | ⟨h1, h2, h3, h4⟩
    all_goals go_enter Try.func20, Try.ntmps20
    all_goals go_wp2
    all_goals go_ret2
    all_goals exact fault_b _ (Below.refl _ _)
end Go.Proofs.Ytdncdmibmopilaa.Bus
