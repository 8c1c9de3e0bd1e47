/-
  The walk of the law CellBytes. Conditions: the arguments read, within the form's own reach.
-/
import Derived.Test.YtfdcgmcinkdlmaaCell12
import Derived.Test.YtfdcgmcinkdlmaaRecs
import Derived.Test.YtfdcgmcinkdlmaaSt
namespace Go.Proofs.Ytfdcgmcinkdlmaa.Cell
open Go.RowKit Go.Proofs.Ytfdcgmcinkdlmaa.W Go.Proofs.Ytfdcgmcinkdlmaa.Byt Go.Proofs.Ytfdcgmcinkdlmaa.Num

theorem bytes_in {H : Type} {enc : TypeId × Value → H} {w : World} {A : Option Addr} {n c : Nat} (h : O.Op enc Try.prog w 23 [.slice A n c]) :
    ∃ bs : List UInt8, n ≤ c ∧ c ≤ 140737488351232 ∧ Rd w 1 A n (byts bs) := by
  obtain ⟨A', n', c', xs, e, h1, h2, h3, _, _⟩ := h.recs (sz := 1) (bt := 1) (f := fun b : UInt8 => [Value.int .u8 (b.toNat : Int)]) (Pr := fun _ => True) (fun _ => rfl) (by decide) 0 Try.underlying23 (by kernel_rfl) (by kernel_rfl)
    (fun cs hc => by
      obtain ⟨z, e, h1, h2⟩ := hc.u8 Try.underlying5
      refine ⟨UInt8.ofNat z.toNat, ?_, trivial⟩
      have : ((UInt8.ofNat z.toNat).toNat : Int) = z := by simp; omega
      rw [e, this])
  simp only [List.cons.injEq, Value.slice.injEq, and_true] at e
  obtain ⟨rfl, rfl, rfl⟩ := e
  exact ⟨xs, h1, by omega, by rw [← List.map_eq_flatMap] at h3; exact h3⟩
theorem wf64 {x : Int} (h : (Lit.int .i64 x).wf = true) : -9223372036854775808 ≤ x ∧ x ≤ 9223372036854775807 := by
  simpa [Lit.wf, IntKind.min, IntKind.max, IntKind.signed, IntKind.bits] using h
theorem own_range {w : World} {base sz n c : Nat} {e : TypeId} {A : Option Addr} {xs : List Value} (h : w.ownsRow base e sz (.slice A n c) n xs) : n ≤ c ∧ c ≤ maxLen ∧ ∀ a, A = some a → base ≤ a.block ∧ a.block < w.heap.size := by
  obtain ⟨A', c', he, h1, h2, _, h3⟩ := own_shape h
  injection he with ea _ ec
  subst ea ec
  exact ⟨h1, h2, h3⟩
theorem rd_two8 (w : World) (t : TypeId) (x y : Int) : Rd (w.alloc (.cells #[.int .u8 x, .int .u8 y] t)) 1 (some ⟨w.heap.size, 0, none⟩) 2 [.int .u8 x, .int .u8 y] := rd_blk (Blk.new w t _) rfl rfl
theorem ne_row {A : Option Addr} {n c lo hi : Nat} (hr : ∀ a, A = some a → lo ≤ a.block ∧ a.block < hi) {b : Nat} (hb : b < lo ∨ hi ≤ b) : some b ≠ (Value.slice A n c).ownBlock := by
  intro e
  cases A with
  | none => simp [Value.ownBlock] at e
  | some a =>
    simp [Value.ownBlock] at e
    have := hr a rfl
    omega
theorem putF_len (k n : Int) : (putF k n).length ≤ 4 := by
  unfold putF
  split
  · rename_i h
    rw [putB_len]
    exact (width_bytes h).2.2.2.2
  · simp

set_option maxRecDepth 100000 in
set_option maxHeartbeats 3200000 in
theorem walk_Bytes (H : Type) (enc : TypeId × Value → H) (w : World) (k : Int) (_hk : (Lit.int .i64 k).wf = true) (n : Int) (hn : (Lit.int .i64 n).wf = true) (A : Option Addr) (m c : Nat) (ho : O.Op enc Try.prog w 23 [.slice A m c]) :
    Calls Try.prog 3 #[.int .i64 k, .int .i64 n, .slice A m c] w fun e w' => e = .returned (.bool true) ∧ Below w.heap.size w w' := by
  obtain ⟨i0, hi0, hz0, hz1, hz2⟩ := info_parts u8_info
  obtain ⟨hn1, hn2⟩ := wf64 hn
  obtain ⟨bs, hmc, hc, hr⟩ := bytes_in ho
  have hl := brd_len hr
  have h4 := putF_len k n
  generalize hL : putF k n = L at *
  generalize hG : getF k bs = G at *
  have HPL := Lib.hid hL
  have HG := Lib.hid hG
  have HR := Lib.hid hr
  have HL := Lib.hid hl
  clear ho hn _hk hr hl hL hG
  go_enter Try.func3, Try.ntmps3
  go_wp2_with (at_builtin; refine wpList_append_rd _ rfl (.const (.slice none 0 0)) (.tmp 18) 23 rfl w.heap.size 5 i0 _ 1 1 Try.underlying23 hi0 hz0 hz1 hz2 rfl (by omega) _ 0 [] rfl (World.ownsRow_nil _ _ _ _) A m c (byts bs) rfl HR.out ?_ ?_ ?_ ?_ ?_)
  · intro u hu
    obtain ⟨x, _, rfl⟩ := List.mem_map.1 hu
    rfl
  · unfold maxLen; omega
  · omega
  · omega
  intro v1 w1 o1 g1 at1
  clear at1
  obtain ⟨A1, c1, rfl, _, _, _⟩ := own_shape o1
  try simp only [Nat.zero_add, List.nil_append] at o1
  have hb1 := grow_none (show World.grownBy _ w1 none from g1)
  have z1 := hb1.size
  have O1 := Lib.hid o1
  have B1 := Lib.hid hb1
  clear o1 g1 hb1
  have hO1 := O1.out
  go_wp2_with (at_builtin; refine wpList_append_rd _ rfl (.tmp 19) (.tmp 20) 23 rfl w.heap.size 5 i0 _ 1 1 Try.underlying23 hi0 hz0 hz1 hz2 rfl (by omega) (.slice A1 m c1) m (byts bs) rfl (own_below hO1 (below_alloc _)) _ 2 2 [.int .u8 77, .int .u8 78] rfl (rd_two8 _ _ _ _) ?_ ?_ ?_ ?_ ?_)
  · simp [Value.oneCell']
  · unfold maxLen; omega
  · omega
  · simp; omega
  intro v2 w2 o2 g2 at2
  clear at2
  obtain ⟨A2, c2, rfl, hs1, hs2, _⟩ := own_shape o2
  obtain ⟨gh, rfl, hgh1, hgh2⟩ := own_head o2 (by omega)
  have o2' : w2.ownsRow w.heap.size 5 1 (.slice (some ⟨gh, 0, none⟩) (m + 2) c2) (m + 2) (byts (bs ++ [77, 78])) := by simpa [byts] using o2
  have hb2 : Below w.heap.size w w2 := B1.out.trans (((below_alloc (.cells #[.int .u8 77, .int .u8 78] 5)).mono z1).trans (Grow.below g2 (by simp; omega) (fun g hg => (hO1.lt _ hg).1)))
  have RH := Lib.hid (Rd.own o2')
  have B2 := Lib.hid hb2
  have z2 := hb2.size
  clear o2 o2' g2 hb2 hO1 O1 B1
  go_wp2_with fail
  refine (Put_any k n _ hn1 hn2).mono ?_
  rw [HPL.out]
  rintro e w3 ⟨A3, c3, rfl, o3, hb3⟩
  have z3 := hb3.size
  have RH3 := Lib.hid (RH.out.below hb3)
  have B3 := Lib.hid (B2.out.trans (hb3.mono z2))
  have O3 := Lib.hid o3
  clear o3 hb3
  go_wp2_with fail
  refine (Put_any k n _ hn1 hn2).mono ?_
  rw [HPL.out]
  rintro e w4 ⟨A4, c4, rfl, o4, hb4⟩
  have z4 := hb4.size
  have RH4 := Lib.hid (RH3.out.below hb4)
  have B4 := Lib.hid (B3.out.trans (hb4.mono (by omega)))
  have O4P := Lib.hid (own_below O3.out hb4)
  have RQ4 := Lib.hid (Rd.own o4)
  obtain ⟨_, _, gq⟩ := own_range o4
  obtain ⟨_, _, gp⟩ := own_range O3.out
  have GQ := Lib.hid gq
  have GP := Lib.hid gp
  clear o4 hb4 RH3 B3 O3 gq gp
  have O5 : Hid (w4.ownsRow w2.heap.size 5 1 (.slice A3 L.length c3) L.length ((L.map fun b => (b.toNat : Int)).map (Value.int .u8))) := by
    have h := O4P.out
    rw [List.map_map]
    exact h
  clear O4P
  generalize hN : L.length = N at *
  have HN := Lib.hid hN
  clear hN
  go_wp2
  go_loopw [11] (fun i wr => ∃ q : Nat, q ≤ N ∧ i = .int .i64 q ∧ (∃ ys : List Int, wr.ownsRow w2.heap.size 5 1 (.slice A3 N c3) N (ys.map (Value.int .u8))) ∧ Hid (w4.grownBy wr (Value.slice A3 N c3).ownBlock)) (fun i _ => N - (intOf i).toNat)
  case atStart => exact ⟨0, Nat.zero_le _, rfl, ⟨_, O5.out⟩, Grow.refl _ _⟩
  case round =>
    clear O5
    obtain ⟨q, hq, rfl, ⟨ys, hy⟩, hg⟩ := hrel
    by_cases hlt : q < N
    · obtain ⟨g, rfl, hbg, hgl⟩ := own_head hy (by omega)
      have hyl : ys.length = N := by have := hy.1; simpa using this
      have hu : wr.cell? ⟨g, q, none⟩ = some (.int .u8 (ys.getD q 0)) := by
        rw [hy.cellAt q (by omega)]
        simp [List.getD_eq_getElem?_getD, List.getElem?_eq_getElem (show q < ys.length by omega)]
      generalize ys.getD q 0 = y at hu
      have hfz := hy.frozenAt q
      obtain ⟨h1, h2⟩ := hy.stored q (.int .u8 ((y + 9) % 256))
      have hset : (ys.map (Value.int .u8)).set q (.int .u8 ((y + 9) % 256)) = (ys.set q ((y + 9) % 256)).map (Value.int .u8) := by rw [List.map_set]
      rw [hset] at h1
      have HY := Lib.hid hy
      have H1 := Lib.hid h1
      have H2 := Lib.hid h2
      clear hy h1 h2 hset hyl
      go_wp2
      go_roundw
      case rel => exact ⟨q + 1, by omega, by go_num, ⟨_, H1.out⟩, Grow.trans hg.out H2.out (fun _ _ => .inl rfl)⟩
      case measure => simp [intOf]; omega
    · have hqn : N ≤ q := by omega
      have hsz := hg.out.size
      have hrow : ∀ x, (Value.slice A3 N c3).ownBlock = some x → some x = (Value.slice A3 N c3).ownBlock ∨ w4.heap.size ≤ x := fun x hx => .inl hx.symm
      have HRW := Lib.hid hrow
      have HY := Lib.hid hy
      clear hrow hy
      go_wp2
      obtain ⟨wo, hwo⟩ : ∃ wo : World, wo = wr := ⟨_, rfl⟩
      subst hwo
      go_loopw [9, 12] (fun v i wr2 => ∃ j : Nat, j ≤ 9 ∧ i = .int .i64 j ∧ ∃ Ap cp, v = .slice Ap (N + j) cp ∧ Hid (∃ ys, wr2.ownsRow w2.heap.size 5 1 (.slice Ap (N + j) cp) (N + j) ys) ∧ Hid (w4.grownBy wr2 (Value.slice A3 N c3).ownBlock) ∧
        Hid (∀ x, (Value.slice Ap (N + j) cp).ownBlock = some x → some x = (Value.slice A3 N c3).ownBlock ∨ w4.heap.size ≤ x)) (fun _ i _ => 9 - (intOf i).toNat)
      case atStart => exact ⟨0, by omega, rfl, A3, c3, rfl, ⟨_, HY.out⟩, hg, HRW⟩
      case round =>
        clear HY HRW hsz
        obtain ⟨j, hj, rfl, Ap, cp, rfl, HZ, hg2, hv2⟩ := hrel
        have hsz2 := hg2.out.size
        by_cases hlt2 : j < 9
        · obtain ⟨zs, hz⟩ := HZ.out
          clear HZ
          go_wp2_with (at_builtin; refine wpList_append_rd _ rfl (.tmp 48) (.tmp 49) 23 rfl w2.heap.size 5 i0 _ 1 1 Try.underlying23 hi0 hz0 hz1 hz2 rfl (by omega) _ (N + j) zs rfl (own_below hz (below_alloc _)) _ 1 1 [.int .u8 99] rfl (rd_new _ _ _) ?_ ?_ ?_ ?_ ?_)
          · simp [Value.oneCell']
          · unfold maxLen; omega
          · omega
          · simp; omega
          intro v' w5 ho1 hg1 hat1
          obtain ⟨A5, c5, rfl, _, _, _⟩ := own_shape ho1
          have HO1 := Lib.hid ho1
          have HG1 := Lib.hid hg1
          have HA1 := Lib.hid hat1
          clear ho1 hg1 hat1 hz
          go_wp2
          go_roundw
          case rel =>
            refine ⟨j + 1, by omega, by go_num, A5, c5, rfl, ⟨_, HO1.out⟩, ?_, ?_⟩
            · exact Grow.trans (Grow.trans hg2.out (World.grownBy_alloc _ _ none) (fun x hx => by cases hx)) HG1.out (fun x hx => (hv2.out x hx).imp (fun h => hx.trans h) id)
            · intro x hx
              rcases HA1.out with h | h
              · exact hv2.out x (by rw [← h]; exact hx)
              · have hx' : (Value.slice A5 (N + j + 1) c5).ownBlock = some x := hx
                rw [h] at hx'
                injection hx' with hx'
                right
                have : wr.heap.size ≤ x := by rw [← hx']; simp
                omega
          case measure => simp [intOf]; omega
        · have hj9 : 9 ≤ j := by omega
          obtain ⟨we, hwe⟩ : ∃ we : World, we = wr := ⟨_, rfl⟩
          subst hwe
          have RH6 := Lib.hid (RH4.out.grown hg2.out (fun a ha => ne_row GP.out (.inl (by injection ha with ha; rw [← ha]; exact hgh2))))
          have RQ6 := Lib.hid (RQ4.out.grown hg2.out (fun a ha => ne_row GP.out (.inr (GQ.out a ha).1)))
          have BW6 := Lib.hid (B4.out.trans (over_below (N := w.heap.size) hg2.out GP.out (by omega) (by omega)))
          have hsz6 := hg2.out.size
          have hNj : (((N : Int) + (j : Int)) != ((N : Int) + 9)) = false := by simp; omega
          clear RH4 RQ4 hg2 hv2 HZ hg hsz2 hlt2
          go_wp2_with fail
          refine (PutR_any k n _ hn1 hn2).mono ?_
          rw [HPL.out]
          rintro e w7 ⟨A7, c7, rfl, r7, hb7⟩
          rw [HN.out] at r7
          rw [HN.out]
          have RH7 := Lib.hid (RH6.out.below hb7)
          have RQ7 := Lib.hid (RQ6.out.below hb7)
          have RW7 := Lib.hid r7
          have z7 := hb7.size
          have BW7 := Lib.hid (BW6.out.trans (hb7.mono (by omega)))
          clear RH6 RQ6 BW6 hb7 r7
          go_wp2_with fail
          refine (sameBytes_eq A4 A7 N c4 c7 L _ RQ7.out RW7.out).mono ?_
          rintro e w8 ⟨rfl, rfl⟩
          go_wp2_with fail
          refine (Put_any k n _ hn1 hn2).mono ?_
          rw [HPL.out]
          rintro e w9 ⟨A9, c9, rfl, o9, hb9⟩
          rw [HN.out] at o9
          rw [HN.out]
          have RH9 := Lib.hid (RH7.out.below hb9)
          have RW9 := Lib.hid (RW7.out.below hb9)
          have RP9 := Lib.hid (Rd.own o9)
          have BW9 := Lib.hid (BW7.out.trans (hb9.mono (by omega)))
          clear RH7 RW7 RQ7 BW7 hb9 o9
          go_wp2_with fail
          refine (sameBytes_eq A9 A7 N c9 c7 L _ RP9.out RW9.out).mono ?_
          rintro e w10 ⟨rfl, rfl⟩
          have RC9 : Hid (Rd w9 1 (some ⟨gh, 0, none⟩) m (byts bs)) := by
            have h := RH9.out
            refine ⟨by simp [HL.out], fun _ => ?_⟩
            obtain ⟨b, o, e, hc'⟩ := h.2 (by omega)
            refine ⟨b, o, e, fun j u hu => hc' j u ?_⟩
            have hj : j < (byts bs).length := (List.getElem?_eq_some_iff.1 hu).1
            simp only [byts, List.map_append]
            rw [List.getElem?_append_left hj]
            exact hu
          have hGc := HG.out
          go_wp2_with fail
          refine (Get_any k (some ⟨gh, 0, none⟩) m c2 bs _ RC9.out (by omega)).mono ?_
          rw [HG.out]
          rintro e w11 ⟨rfl, rfl⟩
          go_wp2_with fail
          refine (GetR_any k A m c bs _ (HR.out.below BW9.out) (by omega)).mono ?_
          rw [HG.out]
          rintro e w12 ⟨rfl, rfl⟩
          have q1 := conv_bytes (P := Try.prog) RH9.out c2 23 5 9 Try.underlying23 Try.underlying5 Try.underlying9
          have q2 := conv_bytes (P := Try.prog) (HR.out.below BW9.out) c 23 5 9 Try.underlying23 Try.underlying5 Try.underlying9
          have hbl : ¬ 9223372036854775807 < bs.length + 2 := by rw [HL.out]; omega
          have hstr : (bs ++ [77, 78] == (strB bs ++ ⟨#[77, 78]⟩ : ByteArray).toList) = true := by
            rw [show (strB bs ++ ⟨#[77, 78]⟩ : ByteArray).toList = bs ++ [77, 78] from by
              have : (strB bs ++ ⟨#[77, 78]⟩ : ByteArray) = strB (bs ++ [77, 78]) := by
                apply ByteArray.ext
                simp [strB]
              rw [this]
              simp [strB]]
            simp
          go_wp2
          go_ret
          exact ⟨rfl, BW9.out⟩
end Go.Proofs.Ytfdcgmcinkdlmaa.Cell
