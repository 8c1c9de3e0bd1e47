/-
  The reference's Record. Conditions: the words read, within the reach.
-/
import Derived.Test.YtbamjapbledgcaaRet4
import Derived.ArgAppend
import Derived.Lib.SlBytesConst
namespace Go.Proofs.Ytbamjapbledgcaa.Ret
open Go.RowKit Go.Proofs.Ytbamjapbledgcaa.W Go.Proofs.Ytbamjapbledgcaa.Ints Go.Proofs.Ytbamjapbledgcaa.Byt Go.Proofs.Ytbamjapbledgcaa.Num

/-- bytes of one's own, and a number -/
def FreshB (w w' : World) (e : Ending) (F : List UInt8 × Int) : Prop :=
  ∃ A c, e = .returned (.tuple #[.slice A F.1.length c, .int .i64 F.2]) ∧ w'.ownsRow w.heap.size 5 1 (.slice A F.1.length c) F.1.length (byts F.1) ∧ Below w.heap.size w w'
theorem fault_b {w w' : World} (k : Int) (hb : Below w.heap.size w w') : FreshB w w' (.returned (.tuple #[.slice none 0 0, .int .i64 k])) ([], k) :=
  ⟨none, 0, rfl, World.ownsRow_nil _ _ _ _, hb⟩
theorem four_len (x : Nat) : (fourB x).length = 4 := rfl
/-- the bytes of those words that may be -/
def bodyB (zs : List Int) : List UInt8 := zs.flatMap fun z => if goodB z = true then fourB z.toNat else []
theorem body_take {zs : List Int} {k : Nat} (h : k < zs.length) : bodyB (zs.take (k + 1)) = bodyB (zs.take k) ++ (if goodB (zs.getD k 0) = true then fourB (zs.getD k 0).toNat else []) := by
  unfold bodyB
  rw [List.take_succ_eq_append_getElem h, List.flatMap_append]
  congr 1
  simp [List.getD_eq_getElem?_getD, List.getElem?_eq_getElem h]
theorem body_len (zs : List Int) : (bodyB zs).length ≤ 4 * zs.length := by
  induction zs with
  | nil => simp [bodyB]
  | cons z zs ih =>
    have e : bodyB (z :: zs) = (if goodB z = true then fourB z.toNat else []) ++ bodyB zs := rfl
    rw [e, List.length_append]
    have : (if goodB z = true then fourB z.toNat else []).length ≤ 4 := by split <;> simp [four_len]
    simp
    omega
theorem body_good {zs : List Int} (h : zs.all goodB = true) : bodyB zs = wordsB zs := by
  induction zs with
  | nil => rfl
  | cons z zs ih =>
    simp only [List.all_cons, Bool.and_eq_true] at h
    have e : bodyB (z :: zs) = (if goodB z = true then fourB z.toNat else []) ++ bodyB zs := rfl
    have e2 : wordsB (z :: zs) = fourB z.toNat ++ wordsB zs := rfl
    rw [e, e2, if_pos h.1, ih h.2]
theorem words_len (zs : List Int) : (wordsB zs).length = 4 * zs.length := by
  induction zs with
  | nil => rfl
  | cons z zs ih =>
    have e2 : wordsB (z :: zs) = fourB z.toNat ++ wordsB zs := rfl
    rw [e2, List.length_append, four_len, ih]
    simp
    omega
theorem sum_lt (bs : List UInt8) : sumB bs < 4294967296 := by unfold sumB; omega
theorem head_len (s n : Nat) : (headB s n).length = 12 := rfl
theorem all_take' {p : Int → Bool} {zs : List Int} {k : Nat} (hk : k < zs.length) : (zs.take (k + 1)).all p = ((zs.take k).all p && p (zs.getD k 0)) := by
  rw [List.take_succ_eq_append_getElem hk, List.all_append]
  simp [List.getD_eq_getElem?_getD, List.getElem?_eq_getElem hk]

theorem rd_holds {w : World} {b o n : Nat} {xs : List Value} (h : Rd w 1 (some ⟨b, o, none⟩) n xs) (hn : 0 < n) : ∀ j u, xs[j]? = some u → w.cell? ⟨b, o + j, none⟩ = some u := by
  obtain ⟨b', o', e, hc⟩ := h.2 hn
  cases e
  exact hc
theorem rd_adds {w : World} {b o n : Nat} {xs : List Value} (h : Rd w 1 (some ⟨b, o, none⟩) n xs) (hn : 0 < n) : ∀ j u, xs[j]? = some u → w.cell? ((⟨b, o, none⟩ : Addr).add j) = some u := by
  intro j u hu
  have hadd : (⟨b, o, none⟩ : Addr).add j = ⟨b, o + j, none⟩ := by unfold Addr.add; split <;> simp_all
  rw [hadd]
  exact rd_holds h hn j u hu
theorem rd_marked (w : World) (C : Array Value) (t : TypeId) (fr : Nat × Nat) : Rd (w.alloc (.cells C t fr)) 1 (some ⟨w.heap.size, 0, none⟩) C.size C.toList := by
  refine ⟨by simp, fun _ => ⟨_, _, rfl, fun j u hu => ?_⟩⟩
  rw [Nat.zero_add, World.cell?_alloc_mark, ← hu]
  simp
set_option maxRecDepth 100000 in
set_option maxHeartbeats 3200000 in
theorem RecordR_any (s : Int) (A : Option Addr) (n c : Nat) (zs : List Int) (w : World) (hr : Rd w 1 A n (ints zs)) (hn : n * 8 ≤ 140737488351232) :
    Calls Try.prog 4 #[.slice A n c, .int .i64 s] w fun e w' => FreshB w w' e (recordF zs s) := by
  obtain ⟨i0, hi0, hz0, hz1, hz2⟩ := info_parts u8_info
  have hl := rd_len hr
  have HR := Lib.hid hr
  by_cases h2000 : 2000 < n
  · have hF : recordF zs s = ([], 4) := by simp [recordF, hl, h2000]
    rw [hF]
    clear hF hl hr
    go_enter Try.func4, Try.ntmps4
    go_wp2
    go_ret2
    exact fault_b 4 (Below.refl _ _)
  · have hF : recordF zs s = if (zs.all goodB && goodB s) = true then (recB zs s.toNat, 0) else ([], 3) := by simp [recordF, hl, h2000]
    have HF := Lib.hid hF
    have HL := Lib.hid hl
    generalize hT : recordF zs s = T
    have HT := Lib.hid hT
    by_cases hs1 : 0 ≤ s
    · by_cases hs2 : s ≤ 4294967295
      · have HSG : Hid (goodB s = true) := by simp [Hid, goodB, hs1, hs2]
        clear hF hl hr hT
        go_enter Try.func4, Try.ntmps4
        go_wp2
        go_loopw [6, 7, 8] (fun ov bv i wr => ∃ k : Nat, k ≤ n ∧ i = .int .i64 k ∧ ∃ ok : Bool, ov = .bool ok ∧ Hid (ok = (true && (zs.take k).all goodB)) ∧ ∃ B d L, bv = .slice B L d ∧ Hid (L = (bodyB (zs.take k)).length) ∧ L ≤ 4 * k ∧ Hid (wr.ownsRow w.heap.size 5 1 (.slice B L d) L (byts (bodyB (zs.take k)))) ∧ Hid (Below w.heap.size w wr)) (fun _ _ i _ => n - (intOf i).toNat)
        case atStart => exact ⟨0, Nat.zero_le _, rfl, true, rfl, by simp [Hid], none, 0, 0, rfl, rfl, by omega, World.ownsRow_nil _ _ _ _, Below.refl _ _⟩
        case round =>
          obtain ⟨k, hk, rfl, ok, rfl, HOK, B, d, L, rfl, HLE, hL, HO, HB⟩ := hrel
          have hbs := HB.out.size
          by_cases hlt : k < n
          · obtain ⟨b, o, rfl, hc⟩ := rd_at (HR.out.below HB.out) (by omega)
            have h1 := hc k hlt
            have HBT := Lib.hid (body_take (zs := zs) (k := k) (by rw [HL.out]; exact hlt))
            have HAT := Lib.hid (all_take' (p := goodB) (zs := zs) (k := k) (by rw [HL.out]; exact hlt))
            clear hc
            generalize hu : zs.getD k 0 = u at h1 HBT HAT
            clear hu
            have hw : (u < 0 ∨ 4294967295 < u ∧ 0 ≤ u) ∨ (0 ≤ u ∧ u ≤ 4294967295) := by omega
            rcases hw with hw | ⟨hw1, hw2⟩
            · have hgb : goodB u = false := by simp [goodB]; omega
              have HBT2 : Hid (bodyB (zs.take (k + 1)) = bodyB (zs.take k)) := by have h := HBT.out; rw [hgb] at h; exact Lib.hid (by simpa using h)
              have HAT2 : Hid ((zs.take (k + 1)).all goodB = false) := by have h := HAT.out; rw [hgb] at h; exact Lib.hid (by simpa using h)
              clear hgb HBT HAT
              rcases hw with hw | ⟨hw1, hw2⟩
              all_goals go_wp2
              all_goals go_roundw
              case rel => exact ⟨k + 1, by omega, by go_num, false, rfl, by rw [HAT2.out]; simp [Hid], B, d, L, rfl, by rw [HBT2.out]; exact HLE, by omega, by rw [HBT2.out]; exact HO, HB⟩
              case measure => simp [intOf]; omega
              case rel => exact ⟨k + 1, by omega, by go_num, false, rfl, by rw [HAT2.out]; simp [Hid], B, d, L, rfl, by rw [HBT2.out]; exact HLE, by omega, by rw [HBT2.out]; exact HO, HB⟩
              case measure => simp [intOf]; omega
            · have hgb : goodB u = true := by simp [goodB]; omega
              have HBT2 : Hid (bodyB (zs.take (k + 1)) = bodyB (zs.take k) ++ fourB u.toNat) := by have h := HBT.out; rw [hgb] at h; exact Lib.hid (by simpa using h)
              have HAT2 : Hid ((zs.take (k + 1)).all goodB = (zs.take k).all goodB) := by have h := HAT.out; rw [hgb] at h; exact Lib.hid (by simpa using h)
              clear hgb HBT HAT
              obtain ⟨x, rfl⟩ := Int.eq_ofNat_of_zero_le hw1
              simp only [Int.toNat_natCast] at HBT2
              go_wp2_with fail
              refine (four_any x _ (by omega)).mono ?_
              rintro e w2 ⟨rfl, r2, hb2, z2⟩
              have hO2 := own_below HO.out hb2
              have R2 := Lib.hid r2
              have HB2 := Lib.hid hb2
              clear r2 hb2
              have r2 := R2.out
              go_wp2_with (at_builtin; refine wpList_append_rd _ rfl (.tmp 38) (.tmp 43) 23 rfl w.heap.size 5 i0 _ 1 1 Try.underlying23 hi0 hz0 hz1 hz2 rfl (by omega) (.slice B L d) L (byts (bodyB (zs.take k))) rfl hO2 (some ⟨wr.heap.size, 0, none⟩) 4 4 (byts (fourB x)) rfl r2 ?_ ?_ ?_ ?_ ?_)
              · intro u hu
                obtain ⟨x, _, rfl⟩ := List.mem_map.1 hu
                rfl
              · unfold maxLen; omega
              · omega
              · omega
              intro v3 w3 o3 g3 at3
              obtain ⟨A3, c3, rfl, _, _, _⟩ := own_shape o3
              rw [← List.map_append, ← HBT2.out] at o3
              have O3 := Lib.hid o3
              have B3 : Hid (Below w.heap.size w w3) := HB.out.trans ((HB2.out.mono hbs).trans (Grow.below g3 (by omega) (fun g hg => (hO2.lt _ hg).1)))
              have HLE2 : Hid (L + 4 = (bodyB (zs.take (k + 1))).length) := by rw [HBT2.out, List.length_append, ← HLE.out, four_len]; rfl
              clear o3 g3 at3 hO2 r2 R2 HB2 HBT2 HO HB HLE
              go_wp2
              go_roundw
              case rel => exact ⟨k + 1, by omega, by go_num, ok, rfl, by rw [HAT2.out]; exact HOK, A3, c3, L + 4, rfl, HLE2, by omega, O3, B3⟩
              case measure => simp [intOf]; omega
          · have htk : zs.take k = zs := List.take_of_length_le (by rw [HL.out]; omega)
            rw [htk] at HOK HLE HO
            clear htk
            cases ok
            · have hall : zs.all goodB = false := by have h := HOK.out; simpa using h.symm
              have hT2 : T = ([], 3) := by rw [← HT.out, HF.out, hall]; simp
              have HT2 := Lib.hid hT2
              clear hT2 hall
              go_wp2
              go_ret2
              rw [HT2.out]
              exact fault_b 3 HB.out
            · have hall : zs.all goodB = true := by have h := HOK.out; simpa using h.symm
              have hT2 : T = (recB zs s.toNat, 0) := by rw [← HT.out, HF.out, HSG.out, hall]; simp
              obtain ⟨x, rfl⟩ := Int.eq_ofNat_of_zero_le hs1
              rw [body_good hall] at HLE HO
              simp only [Int.toNat_natCast] at hT2
              have hL4 : L = 4 * n := by rw [HLE.out, words_len, HL.out]
              have HT2 := Lib.hid hT2
              have HL4 := Lib.hid hL4
              clear hT2 hall HT HF HOK HSG hL4
              obtain ⟨wq, hwq⟩ : ∃ wq : World, wq = wr := ⟨_, rfl⟩
              subst hwq
              have R0 : Hid (Rd (wq.alloc (.cells #[.int .u8 80, .int .u8 87, .int .u8 82, .int .u8 49] 5 (4, 5))) 1 (some ⟨wq.heap.size, 0, none⟩) 4 (byts [80, 87, 82, 49])) := rd_marked wq #[.int .u8 80, .int .u8 87, .int .u8 82, .int .u8 49] 5 (4, 5)
              have RB := Lib.hid (Rd.own HO.out)
              have kc := fun (w : World) (C : Array Value) (n c : Nat) => Lib.run_convert_bytes_const (P := Try.prog) w 23 5 C n c Try.underlying23 Try.underlying5
              clear HO
              go_wp2_with fail
              refine (four_any x _ (by omega)).mono ?_
              rintro e f1 ⟨rfl, r1, hb1, z1⟩
              simp only [World.size_alloc] at r1 z1
              have R1 := R0.out.below hb1
              have b1 : Hid (Below wq.heap.size wq f1) := (below_alloc _).trans (hb1.mono (by simp))
              clear R0 hb1
              go_wp2_with (at_builtin; refine wpList_append_arg _ rfl (.tmp 48) (.tmp 50) 23 rfl 5 i0 _ 1 1 Try.underlying23 hi0 hz0 hz1 hz2 rfl (by omega) wq.heap.size 0 4 4 (byts [80, 87, 82, 49]) rfl rfl (rd_holds R1 (by omega)) ⟨wq.heap.size + 1, 0, none⟩ 4 4 (byts (fourB x)) rfl rfl (rd_adds r1 (by omega)) ?_ (fun h => absurd h (by omega)) ?_ ?_ (fun h => absurd h (by omega)) ?_)
              · intro u hu
                obtain ⟨x, _, rfl⟩ := List.mem_map.1 hu
                rfl
              · unfold maxLen; omega
              · omega
              intro v2 w2 o2 g2
              obtain ⟨A2, c2, rfl, _, _, _⟩ := own_shape o2
              have e2 : byts ([80, 87, 82, 49] ++ fourB x) = .int .u8 80 :: .int .u8 87 :: .int .u8 82 :: .int .u8 49 :: byts (fourB x) := rfl
              have o2 : w2.ownsRow wq.heap.size 5 1 (.slice A2 (4 + 4) c2) (4 + 4) (byts ([80, 87, 82, 49] ++ fourB x)) := by
                rw [e2]
                exact own_weaken o2 (by omega)
              clear e2
              obtain ⟨Q1, hQ1⟩ : ∃ Q, Q = [80, 87, 82, 49] ++ fourB x := ⟨_, rfl⟩
              rw [← hQ1] at o2
              have HQ1 := Lib.hid hQ1
              have O2 : Hid (w2.ownsRow wq.heap.size 5 1 (.slice A2 8 c2) 8 (byts Q1)) := o2
              clear hQ1
              have b2 : Hid (Below wq.heap.size wq w2) := b1.out.trans (Grow.below g2 (by omega) (fun g hg => by cases hg))
              have z2 := b2.out.size
              clear o2 g2 R1 r1 b1
              go_wp2_with fail
              refine (four_any n _ (by omega)).mono ?_
              rintro e f3 ⟨rfl, r3, hb3, z3⟩
              have o3 := own_below O2.out hb3
              have b3 : Hid (Below wq.heap.size wq f3) := b2.out.trans (hb3.mono (by omega))
              clear O2 hb3 b2
              go_wp2_with (at_builtin; refine wpList_append_rd _ rfl (.tmp 52) (.tmp 55) 23 rfl wq.heap.size 5 i0 _ 1 1 Try.underlying23 hi0 hz0 hz1 hz2 rfl (by omega) _ 8 (byts (Q1)) rfl o3 (some ⟨w2.heap.size, 0, none⟩) 4 4 (byts (fourB n)) rfl r3 ?_ ?_ ?_ ?_ ?_)
              · intro u hu
                obtain ⟨x, _, rfl⟩ := List.mem_map.1 hu
                rfl
              · unfold maxLen; omega
              · omega
              · omega
              intro v4 w4 o4 g4 at4
              clear at4
              obtain ⟨A4, c4, rfl, _, _, _⟩ := own_shape o4
              have o4 : w4.ownsRow wq.heap.size 5 1 (.slice A4 (12) c4) (12) (byts (Q1 ++ fourB n)) := by first | (rw [← List.map_append] at o4; exact o4) | (simp only [byts, List.map_append] at o4 ⊢; exact o4)
              have O4 := Lib.hid o4
              have b4 : Hid (Below wq.heap.size wq w4) := b3.out.trans (Grow.below g4 (by omega) (fun g hg => (o3.lt _ hg).1))
              have z4 := b4.out.size
              obtain ⟨Q2, hQ2⟩ : ∃ Q, Q = Q1 ++ fourB n := ⟨_, rfl⟩
              rw [← hQ2] at O4
              have HQ2 : Hid (Q2 = headB x zs.length) := by rw [hQ2, HQ1.out, HL.out]; exact (rfl : _ = headB x n)
              clear o4 g4 o3 r3 b3 hQ2
              have hcs := sum_lt Q2
              go_wp2_with fail
              refine (CRC_any A4 12 c4 Q2 _ (Rd.own O4.out) (by unfold maxLen; omega)).mono ?_
              rintro e f5 ⟨rfl, rfl⟩
              generalize hC1 : sumB Q2 = C1 at hcs
              have HC1 := Lib.hid hC1
              clear hC1
              go_wp2_with fail
              refine (four_any C1 _ hcs).mono ?_
              rintro e f6 ⟨rfl, r6, hb6, z6⟩
              have o6 := own_below O4.out hb6
              have b6 : Hid (Below wq.heap.size wq f6) := b4.out.trans (hb6.mono (by omega))
              clear O4 hb6 b4
              go_wp2_with (at_builtin; refine wpList_append_rd _ rfl (.tmp 57) (.tmp 60) 23 rfl wq.heap.size 5 i0 _ 1 1 Try.underlying23 hi0 hz0 hz1 hz2 rfl (by omega) _ 12 (byts (Q2)) rfl o6 (some ⟨w4.heap.size, 0, none⟩) 4 4 (byts (fourB C1)) rfl r6 ?_ ?_ ?_ ?_ ?_)
              · intro u hu
                obtain ⟨x, _, rfl⟩ := List.mem_map.1 hu
                rfl
              · unfold maxLen; omega
              · omega
              · omega
              intro v7 w7 o7 g7 at7
              clear at7
              obtain ⟨A7, c7, rfl, _, _, _⟩ := own_shape o7
              have o7 : w7.ownsRow wq.heap.size 5 1 (.slice A7 (16) c7) (16) (byts (Q2 ++ fourB C1)) := by first | (rw [← List.map_append] at o7; exact o7) | (simp only [byts, List.map_append] at o7 ⊢; exact o7)
              have O7 := Lib.hid o7
              have b7 : Hid (Below wq.heap.size wq w7) := b6.out.trans (Grow.below g7 (by omega) (fun g hg => (o6.lt _ hg).1))
              have z7 := b7.out.size
              obtain ⟨Q3, hQ3⟩ : ∃ Q, Q = Q2 ++ fourB C1 := ⟨_, rfl⟩
              rw [← hQ3] at O7
              have HQ3 := Lib.hid hQ3
              clear o7 g7 o6 r6 b6 hQ3
              have hcb := sum_lt (wordsB zs)
              have RB7 := Lib.hid (RB.out.below b7.out)
              go_wp2_with fail
              refine (CRC_any B L d (wordsB zs) _ RB7.out (by unfold maxLen; omega)).mono ?_
              rintro e f8 ⟨rfl, rfl⟩
              generalize hC2 : sumB (wordsB zs) = C2 at hcb
              have HC2 := Lib.hid hC2
              clear hC2
              have o7 := O7.out
              have r7 := RB7.out
              go_wp2_with (at_builtin; refine wpList_append_rd _ rfl (.tmp 64) (.tmp 65) 23 rfl wq.heap.size 5 i0 _ 1 1 Try.underlying23 hi0 hz0 hz1 hz2 rfl (by omega) _ 16 (byts (Q3)) rfl o7 B L d (byts (wordsB zs)) rfl r7 ?_ ?_ ?_ ?_ ?_)
              · intro u hu
                obtain ⟨x, _, rfl⟩ := List.mem_map.1 hu
                rfl
              · unfold maxLen; omega
              · omega
              · omega
              intro v9 w9 o9 g9 at9
              clear at9
              obtain ⟨A9, c9, rfl, _, _, _⟩ := own_shape o9
              have o9 : w9.ownsRow wq.heap.size 5 1 (.slice A9 (16 + L) c9) (16 + L) (byts (Q3 ++ wordsB zs)) := by first | (rw [← List.map_append] at o9; exact o9) | (simp only [byts, List.map_append] at o9 ⊢; exact o9)
              have O9 := Lib.hid o9
              have b9 : Hid (Below wq.heap.size wq w9) := b7.out.trans (Grow.below g9 (by omega) (fun g hg => (o7.lt _ hg).1))
              have z9 := b9.out.size
              obtain ⟨Q4, hQ4⟩ : ∃ Q, Q = Q3 ++ wordsB zs := ⟨_, rfl⟩
              rw [← hQ4] at O9
              have HQ4 := Lib.hid hQ4
              clear o9 g9 o7 r7 b7 O7 hQ4
              go_wp2_with fail
              refine (four_any C2 _ hcb).mono ?_
              rintro e f10 ⟨rfl, r10, hb10, z10⟩
              have o10 := own_below O9.out hb10
              have b10 : Hid (Below wq.heap.size wq f10) := b9.out.trans (hb10.mono (by omega))
              clear O9 hb10 b9
              go_wp2_with (at_builtin; refine wpList_append_rd _ rfl (.tmp 66) (.tmp 68) 23 rfl wq.heap.size 5 i0 _ 1 1 Try.underlying23 hi0 hz0 hz1 hz2 rfl (by omega) _ (16 + L) (byts (Q4)) rfl o10 (some ⟨w9.heap.size, 0, none⟩) 4 4 (byts (fourB C2)) rfl r10 ?_ ?_ ?_ ?_ ?_)
              · intro u hu
                obtain ⟨x, _, rfl⟩ := List.mem_map.1 hu
                rfl
              · unfold maxLen; omega
              · omega
              · omega
              intro v11 w11 o11 g11 at11
              clear at11
              obtain ⟨A11, c11, rfl, _, _, _⟩ := own_shape o11
              have o11 : w11.ownsRow wq.heap.size 5 1 (.slice A11 (16 + L + 4) c11) (16 + L + 4) (byts (Q4 ++ fourB C2)) := by first | (rw [← List.map_append] at o11; exact o11) | (simp only [byts, List.map_append] at o11 ⊢; exact o11)
              have O11 := Lib.hid o11
              have b11 : Hid (Below wq.heap.size wq w11) := b10.out.trans (Grow.below g11 (by omega) (fun g hg => (o10.lt _ hg).1))
              clear o11 g11 o10 r10 b10
              have hrec : recB zs x = Q4 ++ fourB C2 := by rw [HQ4.out, HQ3.out, ← HC1.out, ← HC2.out, HQ2.out]; rfl
              have hlen : (recB zs x).length = 16 + L + 4 := by rw [hrec, HQ4.out, HQ3.out, HQ2.out]; have := HL4.out; simp only [List.length_append, head_len, four_len, words_len, HL.out]; omega
              have HRC := Lib.hid hrec
              have HLN := Lib.hid hlen
              clear hrec hlen
              go_wp2
              go_ret2
              rw [HT2.out]
              refine ⟨A11, c11, ?_, ?_, HB.out.trans (b11.out.mono hbs)⟩
              · simp only [HLN.out]; rfl
              · show w11.ownsRow w.heap.size 5 1 (.slice A11 (recB zs x).length c11) (recB zs x).length (byts (recB zs x))
                rw [HLN.out, HRC.out]
                exact own_weaken O11.out hbs
      · have HSG : Hid (goodB s = false) := by simp [Hid, goodB]; omega
        clear hF hl hr hT
        go_enter Try.func4, Try.ntmps4
        go_wp2
        go_loopw [6, 7, 8] (fun ov bv i wr => ∃ k : Nat, k ≤ n ∧ i = .int .i64 k ∧ ∃ ok : Bool, ov = .bool ok ∧ Hid (ok = (false && (zs.take k).all goodB)) ∧ ∃ B d L, bv = .slice B L d ∧ Hid (L = (bodyB (zs.take k)).length) ∧ L ≤ 4 * k ∧ Hid (wr.ownsRow w.heap.size 5 1 (.slice B L d) L (byts (bodyB (zs.take k)))) ∧ Hid (Below w.heap.size w wr)) (fun _ _ i _ => n - (intOf i).toNat)
        case atStart => exact ⟨0, Nat.zero_le _, rfl, false, rfl, by simp [Hid], none, 0, 0, rfl, rfl, by omega, World.ownsRow_nil _ _ _ _, Below.refl _ _⟩
        case round =>
          obtain ⟨k, hk, rfl, ok, rfl, HOK, B, d, L, rfl, HLE, hL, HO, HB⟩ := hrel
          have hbs := HB.out.size
          by_cases hlt : k < n
          · obtain ⟨b, o, rfl, hc⟩ := rd_at (HR.out.below HB.out) (by omega)
            have h1 := hc k hlt
            have HBT := Lib.hid (body_take (zs := zs) (k := k) (by rw [HL.out]; exact hlt))
            have HAT := Lib.hid (all_take' (p := goodB) (zs := zs) (k := k) (by rw [HL.out]; exact hlt))
            clear hc
            generalize hu : zs.getD k 0 = u at h1 HBT HAT
            clear hu
            have hw : (u < 0 ∨ 4294967295 < u ∧ 0 ≤ u) ∨ (0 ≤ u ∧ u ≤ 4294967295) := by omega
            rcases hw with hw | ⟨hw1, hw2⟩
            · have hgb : goodB u = false := by simp [goodB]; omega
              have HBT2 : Hid (bodyB (zs.take (k + 1)) = bodyB (zs.take k)) := by have h := HBT.out; rw [hgb] at h; exact Lib.hid (by simpa using h)
              have HAT2 : Hid ((zs.take (k + 1)).all goodB = false) := by have h := HAT.out; rw [hgb] at h; exact Lib.hid (by simpa using h)
              clear hgb HBT HAT
              rcases hw with hw | ⟨hw1, hw2⟩
              all_goals go_wp2
              all_goals go_roundw
              case rel => exact ⟨k + 1, by omega, by go_num, false, rfl, by rw [HAT2.out]; simp [Hid], B, d, L, rfl, by rw [HBT2.out]; exact HLE, by omega, by rw [HBT2.out]; exact HO, HB⟩
              case measure => simp [intOf]; omega
              case rel => exact ⟨k + 1, by omega, by go_num, false, rfl, by rw [HAT2.out]; simp [Hid], B, d, L, rfl, by rw [HBT2.out]; exact HLE, by omega, by rw [HBT2.out]; exact HO, HB⟩
              case measure => simp [intOf]; omega
            · have hgb : goodB u = true := by simp [goodB]; omega
              have HBT2 : Hid (bodyB (zs.take (k + 1)) = bodyB (zs.take k) ++ fourB u.toNat) := by have h := HBT.out; rw [hgb] at h; exact Lib.hid (by simpa using h)
              have HAT2 : Hid ((zs.take (k + 1)).all goodB = (zs.take k).all goodB) := by have h := HAT.out; rw [hgb] at h; exact Lib.hid (by simpa using h)
              clear hgb HBT HAT
              obtain ⟨x, rfl⟩ := Int.eq_ofNat_of_zero_le hw1
              simp only [Int.toNat_natCast] at HBT2
              go_wp2_with fail
              refine (four_any x _ (by omega)).mono ?_
              rintro e w2 ⟨rfl, r2, hb2, z2⟩
              have hO2 := own_below HO.out hb2
              have R2 := Lib.hid r2
              have HB2 := Lib.hid hb2
              clear r2 hb2
              have r2 := R2.out
              go_wp2_with (at_builtin; refine wpList_append_rd _ rfl (.tmp 38) (.tmp 43) 23 rfl w.heap.size 5 i0 _ 1 1 Try.underlying23 hi0 hz0 hz1 hz2 rfl (by omega) (.slice B L d) L (byts (bodyB (zs.take k))) rfl hO2 (some ⟨wr.heap.size, 0, none⟩) 4 4 (byts (fourB x)) rfl r2 ?_ ?_ ?_ ?_ ?_)
              · intro u hu
                obtain ⟨x, _, rfl⟩ := List.mem_map.1 hu
                rfl
              · unfold maxLen; omega
              · omega
              · omega
              intro v3 w3 o3 g3 at3
              obtain ⟨A3, c3, rfl, _, _, _⟩ := own_shape o3
              rw [← List.map_append, ← HBT2.out] at o3
              have O3 := Lib.hid o3
              have B3 : Hid (Below w.heap.size w w3) := HB.out.trans ((HB2.out.mono hbs).trans (Grow.below g3 (by omega) (fun g hg => (hO2.lt _ hg).1)))
              have HLE2 : Hid (L + 4 = (bodyB (zs.take (k + 1))).length) := by rw [HBT2.out, List.length_append, ← HLE.out, four_len]; rfl
              clear o3 g3 at3 hO2 r2 R2 HB2 HBT2 HO HB HLE
              go_wp2
              go_roundw
              case rel => exact ⟨k + 1, by omega, by go_num, ok, rfl, by rw [HAT2.out]; exact HOK, A3, c3, L + 4, rfl, HLE2, by omega, O3, B3⟩
              case measure => simp [intOf]; omega
          · have htk : zs.take k = zs := List.take_of_length_le (by rw [HL.out]; omega)
            rw [htk] at HOK HLE HO
            clear htk
            have hok : ok = false := by rw [HOK.out]; rfl
            subst hok
            have hT2 : T = ([], 3) := by rw [← HT.out, HF.out, HSG.out]; simp
            have HT2 := Lib.hid hT2
            clear hT2
            go_wp2
            go_ret2
            rw [HT2.out]
            exact fault_b 3 HB.out
    · have HSG : Hid (goodB s = false) := by simp [Hid, goodB]; omega
      clear hF hl hr hT
      go_enter Try.func4, Try.ntmps4
      go_wp2
      go_loopw [6, 7, 8] (fun ov bv i wr => ∃ k : Nat, k ≤ n ∧ i = .int .i64 k ∧ ∃ ok : Bool, ov = .bool ok ∧ Hid (ok = (false && (zs.take k).all goodB)) ∧ ∃ B d L, bv = .slice B L d ∧ Hid (L = (bodyB (zs.take k)).length) ∧ L ≤ 4 * k ∧ Hid (wr.ownsRow w.heap.size 5 1 (.slice B L d) L (byts (bodyB (zs.take k)))) ∧ Hid (Below w.heap.size w wr)) (fun _ _ i _ => n - (intOf i).toNat)
      case atStart => exact ⟨0, Nat.zero_le _, rfl, false, rfl, by simp [Hid], none, 0, 0, rfl, rfl, by omega, World.ownsRow_nil _ _ _ _, Below.refl _ _⟩
      case round =>
        obtain ⟨k, hk, rfl, ok, rfl, HOK, B, d, L, rfl, HLE, hL, HO, HB⟩ := hrel
        have hbs := HB.out.size
        by_cases hlt : k < n
        · obtain ⟨b, o, rfl, hc⟩ := rd_at (HR.out.below HB.out) (by omega)
          have h1 := hc k hlt
          have HBT := Lib.hid (body_take (zs := zs) (k := k) (by rw [HL.out]; exact hlt))
          have HAT := Lib.hid (all_take' (p := goodB) (zs := zs) (k := k) (by rw [HL.out]; exact hlt))
          clear hc
          generalize hu : zs.getD k 0 = u at h1 HBT HAT
          clear hu
          have hw : (u < 0 ∨ 4294967295 < u ∧ 0 ≤ u) ∨ (0 ≤ u ∧ u ≤ 4294967295) := by omega
          rcases hw with hw | ⟨hw1, hw2⟩
          · have hgb : goodB u = false := by simp [goodB]; omega
            have HBT2 : Hid (bodyB (zs.take (k + 1)) = bodyB (zs.take k)) := by have h := HBT.out; rw [hgb] at h; exact Lib.hid (by simpa using h)
            have HAT2 : Hid ((zs.take (k + 1)).all goodB = false) := by have h := HAT.out; rw [hgb] at h; exact Lib.hid (by simpa using h)
            clear hgb HBT HAT
            rcases hw with hw | ⟨hw1, hw2⟩
            all_goals go_wp2
            all_goals go_roundw
            case rel => exact ⟨k + 1, by omega, by go_num, false, rfl, by rw [HAT2.out]; simp [Hid], B, d, L, rfl, by rw [HBT2.out]; exact HLE, by omega, by rw [HBT2.out]; exact HO, HB⟩
            case measure => simp [intOf]; omega
            case rel => exact ⟨k + 1, by omega, by go_num, false, rfl, by rw [HAT2.out]; simp [Hid], B, d, L, rfl, by rw [HBT2.out]; exact HLE, by omega, by rw [HBT2.out]; exact HO, HB⟩
            case measure => simp [intOf]; omega
          · have hgb : goodB u = true := by simp [goodB]; omega
            have HBT2 : Hid (bodyB (zs.take (k + 1)) = bodyB (zs.take k) ++ fourB u.toNat) := by have h := HBT.out; rw [hgb] at h; exact Lib.hid (by simpa using h)
            have HAT2 : Hid ((zs.take (k + 1)).all goodB = (zs.take k).all goodB) := by have h := HAT.out; rw [hgb] at h; exact Lib.hid (by simpa using h)
            clear hgb HBT HAT
            obtain ⟨x, rfl⟩ := Int.eq_ofNat_of_zero_le hw1
            simp only [Int.toNat_natCast] at HBT2
            go_wp2_with fail
            refine (four_any x _ (by omega)).mono ?_
            rintro e w2 ⟨rfl, r2, hb2, z2⟩
            have hO2 := own_below HO.out hb2
            have R2 := Lib.hid r2
            have HB2 := Lib.hid hb2
            clear r2 hb2
            have r2 := R2.out
            go_wp2_with (at_builtin; refine wpList_append_rd _ rfl (.tmp 38) (.tmp 43) 23 rfl w.heap.size 5 i0 _ 1 1 Try.underlying23 hi0 hz0 hz1 hz2 rfl (by omega) (.slice B L d) L (byts (bodyB (zs.take k))) rfl hO2 (some ⟨wr.heap.size, 0, none⟩) 4 4 (byts (fourB x)) rfl r2 ?_ ?_ ?_ ?_ ?_)
            · intro u hu
              obtain ⟨x, _, rfl⟩ := List.mem_map.1 hu
              rfl
            · unfold maxLen; omega
            · omega
            · omega
            intro v3 w3 o3 g3 at3
            obtain ⟨A3, c3, rfl, _, _, _⟩ := own_shape o3
            rw [← List.map_append, ← HBT2.out] at o3
            have O3 := Lib.hid o3
            have B3 : Hid (Below w.heap.size w w3) := HB.out.trans ((HB2.out.mono hbs).trans (Grow.below g3 (by omega) (fun g hg => (hO2.lt _ hg).1)))
            have HLE2 : Hid (L + 4 = (bodyB (zs.take (k + 1))).length) := by rw [HBT2.out, List.length_append, ← HLE.out, four_len]; rfl
            clear o3 g3 at3 hO2 r2 R2 HB2 HBT2 HO HB HLE
            go_wp2
            go_roundw
            case rel => exact ⟨k + 1, by omega, by go_num, ok, rfl, by rw [HAT2.out]; exact HOK, A3, c3, L + 4, rfl, HLE2, by omega, O3, B3⟩
            case measure => simp [intOf]; omega
        · have htk : zs.take k = zs := List.take_of_length_le (by rw [HL.out]; omega)
          rw [htk] at HOK HLE HO
          clear htk
          have hok : ok = false := by rw [HOK.out]; rfl
          subst hok
          have hT2 : T = ([], 3) := by rw [← HT.out, HF.out, HSG.out]; simp
          have HT2 := Lib.hid hT2
          clear hT2
          go_wp2
          go_ret2
          rw [HT2.out]
          exact fault_b 3 HB.out
end Go.Proofs.Ytbamjapbledgcaa.Ret
