/-
  The frame of words by bus. Conditions: the words read, within the reach.
-/
import Derived.Test.YtdncdmibmopilaaFrm1
import Derived.Test.YtdncdmibmopilaaBus2
import Derived.Laws.OwnMore
namespace Go.Proofs.Ytdncdmibmopilaa.Bus
open Go.RowKit Go.Proofs.Ytdncdmibmopilaa.W Go.Proofs.Ytdncdmibmopilaa.Ints Go.Proofs.Ytdncdmibmopilaa.Num Go.Proofs.Ytdncdmibmopilaa.Byt

def wordsB (zs : List Int) : List UInt8 := zs.flatMap fun z => two z.toNat
def headB (s q n : Nat) : List UInt8 := [lo8 s, lo8 q, lo8 n]
def bodyB (s q : Nat) (zs : List Int) : List UInt8 := headB s q zs.length ++ wordsB zs
def frameB (s q : Nat) (zs : List Int) : List UInt8 := bodyB s q zs ++ two (crc (bodyB s q zs))
def frameF (st seq : Int) (zs : List Int) : List UInt8 × Int :=
  if 0 ≤ st ∧ st ≤ 247 ∧ 0 ≤ seq ∧ seq ≤ 255 then (if speltE zs = 0 then (frameB st.toNat seq.toNat zs, 0) else ([], speltE zs)) else ([], 3)
/-- bytes of one's own, and a number -/
def FreshB (w w' : World) (e : Ending) (F : List UInt8 × Int) : Prop :=
  ∃ A c, e = .returned (.tuple #[.slice A F.1.length c, .int .i64 F.2]) ∧ w'.ownsRow w.heap.size 5 1 (.slice A F.1.length c) F.1.length (byts F.1) ∧ Below w.heap.size w w'

theorem words_take {zs : List Int} {k : Nat} (h : k < zs.length) : wordsB (zs.take (k + 1)) = wordsB (zs.take k) ++ two (zs.getD k 0).toNat := by
  unfold wordsB
  rw [List.take_succ_eq_append_getElem h, List.flatMap_append]
  congr 1
  simp [List.getD_eq_getElem?_getD, List.getElem?_eq_getElem h]
theorem two_len (x : Nat) : (two x).length = 2 := rfl
theorem words_len (zs : List Int) : (wordsB zs).length = 2 * zs.length := by
  induction zs with
  | nil => rfl
  | cons z zs ih => simp [wordsB, two_len] at ih ⊢; omega
theorem body_len (s q : Nat) (zs : List Int) : (bodyB s q zs).length = 3 + 2 * zs.length := by simp [bodyB, headB, words_len]; omega
theorem frame_len (s q : Nat) (zs : List Int) : (frameB s q zs).length = 5 + 2 * zs.length := by simp [frameB, body_len, two_len]; omega
theorem spelt_ok {zs : List Int} (h : speltE zs = 0) : zs.length ≤ 60 ∧ ∀ k, k < zs.length → 0 ≤ zs.getD k 0 ∧ zs.getD k 0 ≤ 65535 := by
  unfold speltE at h
  split at h
  · omega
  · split at h
    · rename_i h1 h2
      refine ⟨by omega, fun k hk => ?_⟩
      rw [List.all_eq_true] at h2
      have := h2 (zs[k]) (List.getElem_mem hk)
      simp [wordB] at this
      simp [List.getD_eq_getElem?_getD, List.getElem?_eq_getElem hk]
      exact this
    · omega
theorem fault_b {w w' : World} (k : Int) (hb : Below w.heap.size w w') : FreshB w w' (.returned (.tuple #[.slice none 0 0, .int .i64 k])) ([], k) :=
  ⟨none, 0, rfl, World.ownsRow_nil _ _ _ _, hb⟩

set_option maxHeartbeats 3200000 in
theorem Frame_any (st seq : Int) (A : Option Addr) (n c : Nat) (zs : List Int) (w : World) (hr : Rd w 1 A n (ints zs)) (hn : n * 8 ≤ 140737488351232) :
    Calls Try.prog 21 #[.int .i64 st, .int .i64 seq, .slice A n c] w fun e w' => FreshB w w' e (frameF st seq zs) := by
  have hl := rd_len hr
  have HR := Lib.hid hr
  clear hr
  by_cases hg : 0 ≤ st ∧ st ≤ 247 ∧ 0 ≤ seq ∧ seq ≤ 255
  · obtain ⟨g1, g2, g3, g4⟩ := hg
    by_cases hs : speltE zs = 0
    · rw [show frameF st seq zs = (frameB st.toNat seq.toNat zs, 0) from by simp [frameF, g1, g2, g3, g4, hs]]
      obtain ⟨s, rfl⟩ := Int.eq_ofNat_of_zero_le g1
      obtain ⟨q, rfl⟩ := Int.eq_ofNat_of_zero_le g3
      obtain ⟨h60, hz⟩ := spelt_ok hs
      have HS := Lib.hid hs
      have HL := Lib.hid hl
      have HZ := Lib.hid hz
      have h60' : n ≤ 60 := by omega
      simp only [Int.toNat_natCast]
      clear hs hl hz h60
      have w1 : (decide (0 ≤ (s : Int)) && decide ((s : Int) ≤ 247)) = true := by simp; omega
      have w2 : (decide (0 ≤ (q : Int)) && decide ((q : Int) ≤ 255)) = true := by simp; omega
      have W1 := Lib.hid w1
      have W2 := Lib.hid w2
      clear w1 w2
      go_enter Try.func21, Try.ntmps21
      go_wp2_with (go_at_call 32; refine (within_any _ _ _).mono ?_; rintro e w' ⟨rfl, rfl⟩; first | rw [W1.out] | rw [W2.out])
      refine (words_any A n c zs _ HR.out (by unfold maxLen; omega)).mono ?_
      rintro e w' ⟨rfl, rfl⟩
      rw [HS.out]
      go_wp2
      have HB0 := Lib.hid (below_alloc (w := w) (.cells #[.int .u8 (s : Int), .int .u8 (q : Int), .int .u8 (n : Int)] 5))
      have HO0 : Hid ((w.alloc (.cells #[.int .u8 (s : Int), .int .u8 (q : Int), .int .u8 (n : Int)] 5)).ownsRow w.heap.size 5 1 (.slice (some ⟨w.heap.size, 0, none⟩) (3 + 2 * 0) 3) (3 + 2 * 0) (byts (headB s q n ++ wordsB (zs.take 0)))) := by
        have h := World.ownsRow_lit (base := w.heap.size) (e := 5) (size := 1) w #[.int .u8 (s : Int), .int .u8 (q : Int), .int .u8 (n : Int)] 3 (Nat.le_refl _) (by unfold maxLen; omega) rfl
        have e : byts (headB s q n ++ wordsB (zs.take 0)) = [.int .u8 (s : Int), .int .u8 (q : Int), .int .u8 (n : Int)] := by
          simp [byts, headB, wordsB, lo8]
          omega
        rw [e]
        exact h
      go_loopw [9, 35] (fun b i wr => ∃ k : Nat, k ≤ n ∧ i = .int .i64 k ∧ ∃ B d, b = .slice B (3 + 2 * k) d ∧ Hid (wr.ownsRow w.heap.size 5 1 (.slice B (3 + 2 * k) d) (3 + 2 * k) (byts (headB s q n ++ wordsB (zs.take k)))) ∧ Hid (Below w.heap.size w wr)) (fun _ i _ => n - (intOf i).toNat)
      case atStart => exact ⟨0, Nat.zero_le _, rfl, _, _, rfl, HO0, HB0⟩
      case round =>
        clear HO0 HB0
        obtain ⟨k, hk, rfl, B, d, rfl, HO, HB⟩ := hrel
        by_cases hlt : k < n
        · obtain ⟨b, o, rfl, hc⟩ := rd_at (HR.out.below HB.out) (by omega)
          have h1 := hc k hlt
          have h2 := HZ.out k (by rw [HL.out]; exact hlt)
          have HW := Lib.hid (words_take (zs := zs) (k := k) (by rw [HL.out]; exact hlt))
          clear hc
          generalize hu : zs.getD k 0 = u at h1 h2 HW
          clear hu
          obtain ⟨h2a, h2b⟩ := h2
          obtain ⟨x, rfl⟩ := Int.eq_ofNat_of_zero_le h2a
          simp only [Int.toNat_natCast] at HW
          have hbs := HB.out.size
          go_wp2_with fail
          refine (put_any w.heap.size B (3 + 2 * k) d _ wr.heap.size x _ (HO.out.alloc _) (by simp; omega) (by omega) (by omega) (by rw [(Blk.new wr _ _).cell]; rfl)).mono ?_
          rintro e w1 ⟨B', d', rfl, ho1, hg1, hat1⟩
          have hb1 : Below w.heap.size w w1 := by
            refine (HB.out.alloc hbs _).trans (Grow.below hg1 (by simp; omega) ?_)
            intro g hg
            have := (HO.out.lt g hg).1
            exact this
          rw [List.append_assoc, ← HW.out] at ho1
          have HO1 := Lib.hid ho1
          have HB1 := Lib.hid hb1
          clear ho1 hb1 hg1 hat1
          go_wp2
          go_roundw
          case rel => exact ⟨k + 1, by omega, by go_num, B', d', rfl, HO1, HB1⟩
          case measure => simp [intOf]; omega
        · obtain rfl : k = n := by omega
          have hbo : byts (headB s q k ++ wordsB (zs.take k)) = byts (bodyB s q zs) := by
            rw [List.take_of_length_le (by rw [HL.out]; omega)]
            simp only [bodyB, HL.out]
          have ho := HO.out
          rw [hbo] at ho
          have HO2 := Lib.hid ho
          have hbs := HB.out.size
          have hcl := crc_lt (bodyB s q zs)
          clear ho hbo HO
          go_wp2_with fail
          refine (sum_any B (3 + 2 * k) d (bodyB s q zs) _ (Rd.own HO2.out) (by unfold maxLen; omega)).mono ?_
          rintro e w' ⟨rfl, rfl⟩
          go_wp2_with fail
          refine (put_any w.heap.size B (3 + 2 * k) d _ wr.heap.size (crc (bodyB s q zs)) _ (HO2.out.alloc _) (by simp; omega) (by omega) (by omega) (by rw [(Blk.new wr _ _).cell]; rfl)).mono ?_
          rintro e w1 ⟨B', d', rfl, ho1, hg1, hat1⟩
          have hb1 : Below w.heap.size w w1 := by
            refine (HB.out.alloc hbs _).trans (Grow.below hg1 (by simp; omega) ?_)
            intro g hg
            have := (HO2.out.lt g hg).1
            exact this
          have hfl := frame_len s q zs
          rw [HL.out] at hfl
          have HF := Lib.hid hfl
          have HO1 := Lib.hid ho1
          have HB1 := Lib.hid hb1
          clear ho1 hb1 hg1 hat1 hfl
          go_wp2
          go_ret2
          refine ⟨B', d', ?_, ?_, HB1.out⟩
          · simp only [HF.out]
            rw [show 5 + 2 * k = 3 + 2 * k + 2 from by omega]
            rfl
          · have h := HO1.out
            simp only [HF.out]
            rw [show 5 + 2 * k = 3 + 2 * k + 2 from by omega]
            exact h
    · rw [show frameF st seq zs = ([], speltE zs) from by simp [frameF, g1, g2, g3, g4, hs]]
      have hs' : (speltE zs != 0) = true := by simp [hs]
      have w1 : (decide (0 ≤ st) && decide (st ≤ 247)) = true := by simp; omega
      have w2 : (decide (0 ≤ seq) && decide (seq ≤ 255)) = true := by simp; omega
      have W1 := Lib.hid w1
      have W2 := Lib.hid w2
      clear hs hl w1 w2
      go_enter Try.func21, Try.ntmps21
      go_wp2_with (go_at_call 32; refine (within_any _ _ _).mono ?_; rintro e w' ⟨rfl, rfl⟩; first | rw [W1.out] | rw [W2.out])
      refine (words_any A n c zs _ HR.out (by unfold maxLen; omega)).mono ?_
      rintro e w' ⟨rfl, rfl⟩
      go_wp2
      go_ret2
      exact fault_b _ (Below.refl _ _)
  · rw [show frameF st seq zs = ([], 3) from by simp [frameF, hg]]
    have hg : (decide (0 ≤ st) && decide (st ≤ 247)) = false ∨ (decide (0 ≤ st) && decide (st ≤ 247)) = true ∧ (decide (0 ≤ seq) && decide (seq ≤ 255)) = false := by
      simp only [Bool.and_eq_false_iff, Bool.and_eq_true, decide_eq_true_eq, decide_eq_false_iff_not]
      omega
    rcases hg with h1 | ⟨h1, h2⟩
    · have W1 := Lib.hid h1
      clear h1 hl
      go_enter Try.func21, Try.ntmps21
      go_wp2_with (go_at_call 32; refine (within_any _ _ _).mono ?_; rintro e w' ⟨rfl, rfl⟩; rw [W1.out])
      go_ret2
      exact fault_b _ (Below.refl _ _)
    · have W1 := Lib.hid h1
      have W2 := Lib.hid h2
      clear h1 h2 hl
      go_enter Try.func21, Try.ntmps21
      go_wp2_with (go_at_call 32; refine (within_any _ _ _).mono ?_; rintro e w' ⟨rfl, rfl⟩; first | rw [W1.out] | rw [W2.out])
      go_ret2
      exact fault_b _ (Below.refl _ _)
end Go.Proofs.Ytdncdmibmopilaa.Bus
