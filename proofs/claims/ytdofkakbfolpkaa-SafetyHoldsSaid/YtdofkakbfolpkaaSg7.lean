/-
  A step of a guard as the document says it, where the trip can stand; then whole. Conditions: the guard, the trip and what is told read, within the reach.
-/
import Derived.Test.YtdofkakbfolpkaaSg6
namespace Go.Proofs.Ytdofkakbfolpkaa.Sf
open Go.RowKit Go.Proofs.Ytdofkakbfolpkaa.W Go.Proofs.Ytdofkakbfolpkaa.Ints Go.Proofs.Ytdofkakbfolpkaa.Pop

theorem idx_neg {v : Int} {l : List Int} {x : Int} (h : idxOf v l = x) (hx : x < 0) : x = -1 := by
  unfold idxOf at h
  split at h
  · omega
  · omega
theorem idx_keep {v : Int} {l : List Int} {x : Int} (h : (v == x) = false) : idxOf v (l ++ [x]) = idxOf v l := by
  rw [idx_snoc, h]
  by_cases h0 : 0 ≤ idxOf v l
  · rw [if_pos h0]
  · rw [if_neg h0, if_neg (by decide)]
    unfold idxOf at h0 ⊢
    split
    · rename_i k hk
      rw [hk] at h0
      simp at h0
    · rfl
theorem ints_snoc (xs : List Int) (x : Int) : ints (xs ++ [x]) = ints xs ++ [.int .i64 x] := by simp
set_option maxRecDepth 100000 in
set_option maxHeartbeats 6400000 in
theorem stepped_main_true (m d : Int) (Q : Option Addr) (n c : Nat) (vs : List VD) (T : TR) (A : Option Addr) (e : Nat) (told : List Int) (Z : Option Addr) (tl z : Nat) (key : Bool) (w : World) (hr : GRd w Q n vs)
    (ht : Rd w 1 A T.held.length (ints T.held)) (ht8 : T.held.length * 8 ≤ 140737488351232) (hz : Rd w 1 Z tl (ints told)) (hz8 : tl * 8 ≤ 140737488351232) (h : (guardF m d (vs.map VD.pl)).1 = 0) (h2 : standsB d n T = true) (hln : T.held.length = n) (hall0 : T.held.any (outB 0 (d + 2)) = false) (hdn : T.down = true ∧ 0 ≤ T.first ∧ T.first < n) :
    Calls Try.prog 15 #[guardV m d Q n c, tripV T.down T.first A T.held.length e T.key, .slice Z tl z, .bool key] w fun x w' => TripT w w' x (stepF m d (vs.map VD.pl) T told key) := by
  have hlv : (vs.map VD.pl).length = n := by rw [List.length_map]; exact hr.len
  obtain ⟨n16, m1, m64, n1, d0, d1, hall⟩ := guard_len h
  rw [hlv] at n16 n1
  have HSE : Hid (∀ W : World, GRd W Q n vs → Calls Try.prog 11 #[guardV m d Q n c] W fun e w' => e = .returned (faultV (guardF m d (vs.map VD.pl))) ∧ Below W.heap.size W w') := fun W h => Guarded_any m d Q n c vs W h
  have HR := Lib.hid hr
  have HTR := Lib.hid ht
  have HZ := Lib.hid hz
  have HZL := Lib.hid (rd_len hz)
  have HALL := Lib.hid hall
  have HLV := Lib.hid hlv
  have hT : stepF m d (vs.map VD.pl) T told key = if (tl : Int) ≠ m then (zeroT, 4) else if toldB told = true then (zeroT, 3) else (nextF d (vs.map VD.pl) T told key, 0) := by
    unfold stepF
    rw [if_neg (by rw [h]; decide), hlv, if_neg (by rw [h2]; decide), HZL.out]
  obtain ⟨down, first, hs, tkey⟩ := T
  generalize stepF m d (vs.map VD.pl) ⟨down, first, hs, tkey⟩ told key = TT at *
  obtain ⟨i0, hi0, hz0, hz1, hz2⟩ := info_parts int_info
  simp only at *
  generalize guardF m d (vs.map VD.pl) = G at *
  obtain ⟨C, U⟩ := G
  simp only at h
  subst h
  generalize hhl : hs.length = hl at *
  subst hln
  have HTL := Lib.hid hhl
  have HT := Lib.hid hT
  have HHR : Hid (∀ q, q < hl → 0 ≤ hs.getD q 0 ∧ hs.getD q 0 < d + 2) := fun q hq => by
    have hk' : q < hs.length := by rw [hhl]; exact hq
    exact in_of_not_any' hall0 _ (by simp [List.getD_eq_getElem?_getD, List.getElem?_eq_getElem hk'])
  obtain ⟨rfl, hf0, hfn⟩ := hdn
  clear hr ht hz hall hT hlv hhl h2 hall0
  go_enter Try.func15, Try.ntmps15
  go_wp2_with fail
  refine (HSE.out _ (((HR.out.alloc _).alloc _).alloc _)).mono ?_
  rintro x w1 ⟨rfl, hb⟩
  obtain ⟨k1, k2, k3, hb2, z1, z2, z3⟩ := call3 hb
  have c1' := k1.cell
  have c2' := k2.cell
  have K1 := Lib.hid (k1.alloc (.cells #[.int .i64 0, .int .i64 U, .int .i64 0] 33))
  have K2 := Lib.hid (k2.alloc (.cells #[.int .i64 0, .int .i64 U, .int .i64 0] 33))
  have K3 := Lib.hid (k3.alloc (.cells #[.int .i64 0, .int .i64 U, .int .i64 0] 33))
  have HB := Lib.hid (hb2.alloc (by omega) (.cells #[.int .i64 0, .int .i64 U, .int .i64 0] 33))
  have hbs := hb.size
  simp only [World.size_alloc] at hbs
  have hz1 : (w1.alloc (.cells #[.int .i64 0, .int .i64 U, .int .i64 0] 33)).heap.size = w1.heap.size + 1 := World.size_alloc _ _
  clear hb hb2 k1 k2 k3
  go_wp2
  clear c1' c2'
  generalize World.alloc w1 _ = w2 at *
  have hw2 : w.heap.size + 3 < w2.heap.size := by omega
  clear hz1
  go_loopw [11, 12] (fun ok i wr => ∃ q : Nat, q ≤ hl ∧ i = .int .i64 q ∧ ok = .bool (true) ∧ Hid (Below w2.heap.size w2 wr)) (fun _ i _ => hl - (intOf i).toNat)
  case atStart => exact ⟨0, Nat.zero_le _, rfl, by simp, Below.refl _ _⟩
  case round =>
    obtain ⟨q, hq, rfl, rfl, hb⟩ := hrel
    have hzz := hb.out.size
    have c1' := (K1.out.below hb.out).cell
    have c2' := (K2.out.below hb.out).cell
    have c3' := (K3.out.below hb.out).cell
    have f3' := (K3.out.below hb.out).frozen
    have l1' : w.heap.size < wr.heap.size := by omega
    have l2' : w.heap.size + 1 < wr.heap.size := by omega
    have l3' : w.heap.size + 2 < wr.heap.size := by omega
    by_cases hlt : q < hl
    · obtain ⟨b, o, rfl, hc⟩ := rd_at (HTR.out.below (HB.out.trans (hb.out.mono (by omega)))) (by omega)
      have h1 := hc q hlt
      clear hc
      have hk' : q < hs.length := by rw [HTL.out]; exact hlt
      have HN := Lib.hid (any_take_next (f := outB 0 (d + 2)) hk')
      have hq0 : (0 : Int) ≤ (q : Int) := by omega
      have hql : (q : Int) < (hl : Int) := by omega
      have hhr := HHR.out q hlt
      generalize hs.getD q 0 = x at *
      have hx0 : 0 ≤ x := hhr.1
      have hx1 : x ≤ d + 1 := by omega
      have e2 : IntKind.i64.wrap (d + 1) = d + 1 := IntWalk.i64_in _ ⟨by omega, by omega⟩
      go_wp2
      go_quiet (fail)
      go_wp2
      go_roundw
      case rel => exact ⟨q + 1, by omega, by go_num, rfl, below_drewN hb.out _⟩
      case measure => simp [intOf]; omega
    · obtain rfl : q = hl := by omega
      have BB := Lib.hid (HB.out.trans (hb.out.mono (by omega)))
      have KA := Lib.hid (K1.out.below hb.out)
      have KB := Lib.hid (K2.out.below hb.out)
      have KC := Lib.hid (K3.out.below hb.out)
      clear hb
      by_cases hm : (tl : Int) = m
      · have hm' : ((tl : Int) != m) = false := by simpa using hm
        rw [if_neg (by simpa using hm)] at HT
        have HM := Lib.hid hm
        have htl64 : tl ≤ 64 := by omega
        clear hm K1 K2 K3
        obtain ⟨w4, hw4⟩ : ∃ w4 : World, w4 = wr := ⟨_, rfl⟩
        subst hw4
        go_wp2
        go_loop [13] (fun i => ∃ k : Nat, k ≤ tl ∧ i = .int .i64 k ∧ Hid ((told.take k).any (outB 0 3) = false)) (fun i => tl - (intOf i).toNat)
        case atStart => exact ⟨0, Nat.zero_le _, rfl, by simp [Hid]⟩
        case round =>
          obtain ⟨k, hk, rfl, ha⟩ := hrel
          by_cases hlt2 : k < tl
          · obtain ⟨b, o, rfl, hc⟩ := rd_at (HZ.out.below BB.out) (by omega)
            have h1 := hc k hlt2
            clear hc
            have hkl : k < told.length := by rw [HZL.out]; exact hlt2
            have hk0 : (0 : Int) ≤ (k : Int) := by omega
            have hkv : (k : Int) < (tl : Int) := by omega
            generalize hx : told.getD k 0 = x at *
            have HX := Lib.hid hx
            clear hx
            by_cases hx1 : x < 0
            · have HTT : Hid (TT = (zeroT, 3)) := HT.out.trans (if_pos (told_bad hkl HX.out (by simp [outB]; omega)))
              go_wp2
              refine bodyPost_ret (v := .tuple #[tripV false 0 none 0 0 false, .int .i64 3]) ?_ rfl ?_
              · simp [results, Try.results15, go_sem, c3']
              · rw [HTT.out]
                refine trip_nil ?_
                repeat' (first | (with_reducible exact BB.out) | (with_reducible refine Below.setCell ?_ ?_ _; rotate_left; (simp <;> omega)) | (with_reducible refine Below.alloc ?_ ?_ _; rotate_left; (simp <;> omega)))
            · by_cases hx2 : 2 < x
              · have HTT : Hid (TT = (zeroT, 3)) := HT.out.trans (if_pos (told_bad hkl HX.out (by simp [outB]; omega)))
                have hx1' : 0 ≤ x := by omega
                clear hx1
                go_wp2
                refine bodyPost_ret (v := .tuple #[tripV false 0 none 0 0 false, .int .i64 3]) ?_ rfl ?_
                · simp [results, Try.results15, go_sem, c3']
                · rw [HTT.out]
                  refine trip_nil ?_
                  repeat' (first | (with_reducible exact BB.out) | (with_reducible refine Below.setCell ?_ ?_ _; rotate_left; (simp <;> omega)) | (with_reducible refine Below.alloc ?_ ?_ _; rotate_left; (simp <;> omega)))
              · have hx1' : 0 ≤ x := by omega
                have hx2' : x ≤ 2 := by omega
                have HA := Lib.hid (told_next hkl ha.out HX.out (by simp [outB]; omega))
                clear hx1 hx2
                go_wp2
                go_round
                case rel => exact ⟨k + 1, by omega, by go_num, HA⟩
                case measure => simp [intOf]; omega
          · obtain rfl : k = tl := by omega
            have HTT : Hid (TT = (nextF d (vs.map VD.pl) ⟨true, first, hs, tkey⟩ told key, 0)) := by
              rw [Hid, HT.out, if_neg]
              have h := ha.out
              rw [List.take_of_length_le (by rw [HZL.out]; omega)] at h
              unfold toldB
              rw [h]
              decide
            clear HT ha hlt2
            go_wp2
            have HU : Hid (Blk (w4.alloc (.cells #[.bool true, .int .i64 first, .slice none 0 0, .bool key] 28)) w4.heap.size 28 #[.bool true, .int .i64 first, .slice none 0 0, .bool key]) := Blk.new _ _ _
            have HBU : Hid (Below w4.heap.size w4 (w4.alloc (.cells #[.bool true, .int .i64 first, .slice none 0 0, .bool key] 28))) := below_alloc _
            have hwu : w4.heap.size < (w4.alloc (.cells #[.bool true, .int .i64 first, .slice none 0 0, .bool key] 28)).heap.size := by simp
            have hl4 : w.heap.size + 2 < w4.heap.size := l3'
            generalize w4.alloc (.cells #[.bool true, .int .i64 first, .slice none 0 0, .bool key] 28) = W5 at *
            clear c1' c2' c3' f3' hlt
            have HHF : Hid (∀ q p, (vs.map VD.pl)[q]? = some p → (heldF d told (vs.map VD.pl) hs)[q]? = some (heldAt d told p (hs.getD q 0))) := fun q p hp => held_at (by rw [HTL.out, HLV.out]) hp
            have HFL : Hid ((heldF d told (vs.map VD.pl) hs).length = q) := by rw [Hid, held_len (by rw [HTL.out, HLV.out]), HLV.out]
            have hNF := Lib.hid (show nextF d (vs.map VD.pl) ⟨true, first, hs, tkey⟩ told key = if true = false then ⟨decide (0 ≤ idxOf (d + 1) (heldF d told (vs.map VD.pl) hs)), idxOf (d + 1) (heldF d told (vs.map VD.pl) hs), heldF d told (vs.map VD.pl) hs, key⟩
              else if (key && !tkey && !((vs.map VD.pl).any (holdsB told))) = true then ⟨false, -1, heldF d told (vs.map VD.pl) hs, key⟩ else ⟨true, first, heldF d told (vs.map VD.pl) hs, key⟩ from rfl)
            generalize nextF d (vs.map VD.pl) ⟨true, first, hs, tkey⟩ told key = NF at *
            generalize heldF d told (vs.map VD.pl) hs = HF at *
            go_loopw [15, 16, 17, 18, 19, 20] (fun sm rp i _ _ _ wr => ∃ r : Nat, r ≤ q ∧ i = .int .i64 r ∧ sm = .bool (((vs.map VD.pl).take r).any (holdsB told)) ∧ rp = .int .i64 (idxOf (d + 1) (HF.take r)) ∧ ∃ B c', Hid (Blk wr w4.heap.size 28 #[.bool true, .int .i64 first, .slice B r c', .bool key]) ∧ Hid (wr.ownsRow (w4.heap.size + 1) 3 1 (.slice B r c') r (ints (HF.take r))) ∧ Hid (Below w4.heap.size w4 wr) ∧ w4.heap.size < wr.heap.size) (fun _ _ i _ _ _ _ => q - (intOf i).toNat)
            case atStart => exact ⟨0, Nat.zero_le _, rfl, by simp, by simp [idxOf], none, 0, HU, World.ownsRow_nil _ _ _ _, HBU, hwu⟩
            case round =>
              clear HU HBU hwu
              obtain ⟨r, hr, rfl, rfl, rfl, B, c', hk, ho, hb, hgw⟩ := hrel
              have hz := hb.out.size
              have c1' := (KA.out.below hb.out).cell
              have c2' := (KB.out.below hb.out).cell
              have cu := hk.out.cell
              have fu := hk.out.frozen
              have m1' : w.heap.size < wr.heap.size := by omega
              have m2' : w.heap.size + 1 < wr.heap.size := by omega
              have m3' : w.heap.size + 2 < wr.heap.size := by omega
              by_cases hlt3 : r < q
              · obtain ⟨b, o, v, rfl, hvt, hbl, v0, v1, hrv, hvn, hvc⟩ := vote_at (HR.out.below (BB.out.trans (hb.out.mono (by omega)))) hlt3
                have hpt := pl_at hvt
                have hgood := good_vote (not_bad HALL.out hpt)
                have hhr := HHR.out r hlt3
                obtain ⟨bh, oh, e6, hch⟩ := rd_at (HTR.out.below (BB.out.trans (hb.out.mono (by omega)))) (by omega)
                subst e6
                have h0 := hch r hlt3
                obtain ⟨need, A5, vn5, vc5, of⟩ := v
                simp only [VD.pl] at hpt hgood v0 v1 hrv hvn hvc
                have HHK := HHF.out r _ hpt
                have HTK := Lib.hid (held_take HHK)
                have HANY := Lib.hid (any_step (f := holdsB told) hpt)
                have HHD : Hid (heldAt d told (need, of) (hs.getD r 0) = if need ≤ (votesOn told of : Int) then (if d + 1 ≤ hs.getD r 0 + 1 then d + 1 else hs.getD r 0 + 1) else 0) := by simp [Hid, heldAt, holdsB]
                have HBB : Hid (holdsB told (need, of) = decide (need ≤ (votesOn told of : Int))) := rfl
                have HTL2 : Hid ((HF.take r).length = r) := by rw [Hid, List.length_take, HFL.out]; omega
                have HGD := Lib.hid hgood
                have HRV := Lib.hid hrv
                have HVL := Lib.hid (rd_len hrv)
                have hvl : votesOn told of ≤ of.length := List.length_filter_le _ _
                have hvl2 := rd_len hrv
                generalize heldAt d told (need, of) (hs.getD r 0) = hv at *
                generalize hs.getD r 0 = h at *
                generalize hix0 : idxOf (d + 1) (HF.take r) = ix at *
                have HIX0 := Lib.hid hix0
                generalize hsm0 : ((vs.map VD.pl).take r).any (holdsB told) = sm0 at *
                clear hch hgood hrv HHK hix0 hsm0
                have hr0 : (0 : Int) ≤ (r : Int) := by omega
                have hrq : (r : Int) < (q : Int) := by omega
                go_wp2
                go_loop [18, 19] (fun nn j => ∃ jj : Nat, jj ≤ vn5 ∧ j = .int .i64 jj ∧ nn = .int .i64 (votesOn told (of.take jj))) (fun _ j => vn5 - (intOf j).toNat)
                case atStart => exact ⟨0, Nat.zero_le _, rfl, by simp [votesOn]⟩
                case round =>
                  obtain ⟨jj, hjj, rfl, rfl⟩ := hrel
                  by_cases hlt4 : jj < vn5
                  · obtain ⟨b2, o2, e7, hc2⟩ := rd_at HRV.out (by omega)
                    subst e7
                    have hcx := hc2 jj hlt4
                    have hjl : jj < of.length := by rw [HVL.out]; exact hlt4
                    have hx := HGD.out.1 (of.getD jj 0) (by simp [List.getD_eq_getElem?_getD, List.getElem?_eq_getElem hjl])
                    have HVQ : Hid (∀ xx : Nat, of.getD jj 0 = (xx : Int) → votesOn told (of.take (jj + 1)) = votesOn told (of.take jj) + if (told.getD xx 0 != 0) = true then 1 else 0) := fun xx h => votes_next' hjl h
                    have hvb : votesOn told (of.take jj) ≤ jj := by
                      have h1 : votesOn told (of.take jj) ≤ (of.take jj).length := List.length_filter_le _ _
                      rw [List.length_take] at h1
                      omega
                    generalize of.getD jj 0 = x at *
                    obtain ⟨xx, rfl⟩ := Int.eq_ofNat_of_zero_le hx.1
                    have hxt : xx < k := by have := HM.out; omega
                    obtain ⟨b3, o3, e8, hc3⟩ := rd_at (HZ.out.below (BB.out.trans (hb.out.mono (by omega)))) (by omega)
                    subst e8
                    have hcy := hc3 xx hxt
                    have HVN := Lib.hid (HVQ.out xx rfl)
                    clear HVQ
                    generalize told.getD xx 0 = y at *
                    have hxt' : (xx : Int) < (k : Int) := by omega
                    have hj0 : (0 : Int) ≤ (jj : Int) := by omega
                    have hjv : (jj : Int) < (vn5 : Int) := by omega
                    generalize votesOn told (of.take jj) = V0 at *
                    clear hc2 hc3 hx
                    cases hy : (y != 0)
                    · have HV1 : Hid (votesOn told (of.take (jj + 1)) = V0) := by rw [Hid, HVN.out, if_neg (by rw [hy]; decide)]; rfl
                      go_wp2
                      go_round
                      case rel => exact ⟨jj + 1, by omega, by go_num, by rw [HV1.out]⟩
                      case measure => simp [intOf]; omega
                    · have HV1 : Hid (votesOn told (of.take (jj + 1)) = V0 + 1) := by rw [Hid, HVN.out, if_pos hy]
                      go_wp2
                      go_round
                      case rel => exact ⟨jj + 1, by omega, by go_num, by rw [HV1.out]; go_num⟩
                      case measure => simp [intOf]; omega
                  · obtain rfl : jj = vn5 := by omega
                    have htk : of.take jj = of := List.take_of_length_le (by rw [HVL.out]; exact Nat.le_refl _)
                    rw [htk]
                    generalize votesOn told of = V at *
                    clear htk hlt4
                    by_cases hh : need ≤ (V : Int)
                    · by_cases hd1 : h < d
                      · have HHV : Hid (hv = h + 1) := by rw [Hid, HHD.out, if_pos hh, if_neg (by omega)]
                        have hd2 : h + 1 ≤ d + 1 := by omega
                        have hd3 : (h + 1 == d + 1) = false := by simp; omega
                        go_wp2_with (at_builtin; refine wpList_append_rd _ rfl (.tmp 185) (.tmp 187) 26 rfl (w4.heap.size + 1) 3 i0 _ 1 8 Try.underlying26 hi0 hz0 hz1 hz2 rfl (by omega) _ r _ rfl (ho.out.alloc _) _ 1 1 [.int .i64 (h + 1)] rfl (rd_new _ _ _) ?_ ?_ ?_ ?_ ?_)
                        · simp [Value.oneCell']
                        · unfold maxLen; omega
                        · omega
                        intro v' w9 ho9 hg9 hat9
                        obtain ⟨B', d', rfl, _⟩ := own_shape ho9
                        have hrow : ∀ g, (Value.slice B r c').ownBlock = some g → w4.heap.size + 1 ≤ g := fun g hg => (ho.out.lt g hg).1
                        have k9 : Blk w9 w4.heap.size 28 #[.bool true, .int .i64 first, .slice B r c', .bool key] := (hk.out.alloc _).grown hg9 (fun e => by have := hrow _ e.symm; omega)
                        have z9 := hg9.size
                        simp only [World.size_alloc] at z9
                        have c9 := k9.cell
                        have f9 := k9.frozen
                        have HK9 := Lib.hid (k9.put 2 (.slice B' (r + 1) d'))
                        simp only [List.setIfInBounds_toArray, List.set_cons_succ, List.set_cons_zero] at HK9
                        have HO9 : Hid ((w9.setCell ⟨w4.heap.size, 2, none⟩ (.slice B' (r + 1) d')).ownsRow (w4.heap.size + 1) 3 1 (.slice B' (r + 1) d') (r + 1) (ints (HF.take (r + 1)))) := by
                          rw [HTK.out, ints_snoc, HHV.out]
                          exact ownsRow_setCell_below (by simpa using ho9) (by simp) _
                        have HB9 : Hid (Below w4.heap.size w4 (w9.setCell ⟨w4.heap.size, 2, none⟩ (.slice B' (r + 1) d'))) :=
                          ((hb.out.alloc hz _).trans (Grow.below hg9 (by simp; omega) (fun g hg => by have := hrow g hg; omega))).setCell (by simp) _
                        have HRP : Hid (ix = idxOf (d + 1) (HF.take (r + 1))) := by rw [Hid, HTK.out, HHV.out, ← HIX0.out, idx_keep (by simp; omega)]
                        have HSM : Hid (true = ((vs.map VD.pl).take (r + 1)).any (holdsB told)) := by rw [Hid, HANY.out, HBB.out, decide_eq_true hh, Bool.or_true]
                        have hw9 : w4.heap.size < (w9.setCell ⟨w4.heap.size, 2, none⟩ (.slice B' (r + 1) d')).heap.size := by simp; omega
                        clear ho9 hg9 hat9 hrow k9 c1' c2' cu fu v0 v1 h0 ho hb hk
                        go_wp2
                        go_roundw
                        case rel => exact ⟨r + 1, by omega, by go_num, by rw [HSM.out], by rw [HRP.out], B', d', HK9, HO9, HB9, hw9⟩
                        case measure => simp [intOf]; omega
                      · by_cases hd4 : h = d
                        · have hd5 : d = h := hd4.symm
                          subst hd5
                          have HHV : Hid (hv = d + 1) := by rw [Hid, HHD.out, if_pos hh, if_pos (by omega)]
                          have hd2 : d + 1 ≤ d + 1 := by omega
                          have hd3 : (d + 1 == d + 1) = true := by simp
                          by_cases hix : 0 ≤ ix
                          · have hix1 : decide (ix < 0) = false := by simp; omega
                            go_wp2_with (at_builtin; refine wpList_append_rd _ rfl (.tmp 185) (.tmp 187) 26 rfl (w4.heap.size + 1) 3 i0 _ 1 8 Try.underlying26 hi0 hz0 hz1 hz2 rfl (by omega) _ r _ rfl (ho.out.alloc _) _ 1 1 [.int .i64 (d + 1)] rfl (rd_new _ _ _) ?_ ?_ ?_ ?_ ?_)
                            · simp [Value.oneCell']
                            · unfold maxLen; omega
                            · omega
                            intro v' w9 ho9 hg9 hat9
                            obtain ⟨B', d', rfl, _⟩ := own_shape ho9
                            have hrow : ∀ g, (Value.slice B r c').ownBlock = some g → w4.heap.size + 1 ≤ g := fun g hg => (ho.out.lt g hg).1
                            have k9 : Blk w9 w4.heap.size 28 #[.bool true, .int .i64 first, .slice B r c', .bool key] := (hk.out.alloc _).grown hg9 (fun e => by have := hrow _ e.symm; omega)
                            have z9 := hg9.size
                            simp only [World.size_alloc] at z9
                            have c9 := k9.cell
                            have f9 := k9.frozen
                            have HK9 := Lib.hid (k9.put 2 (.slice B' (r + 1) d'))
                            simp only [List.setIfInBounds_toArray, List.set_cons_succ, List.set_cons_zero] at HK9
                            have HO9 : Hid ((w9.setCell ⟨w4.heap.size, 2, none⟩ (.slice B' (r + 1) d')).ownsRow (w4.heap.size + 1) 3 1 (.slice B' (r + 1) d') (r + 1) (ints (HF.take (r + 1)))) := by
                              rw [HTK.out, ints_snoc, HHV.out]
                              exact ownsRow_setCell_below (by simpa using ho9) (by simp) _
                            have HB9 : Hid (Below w4.heap.size w4 (w9.setCell ⟨w4.heap.size, 2, none⟩ (.slice B' (r + 1) d'))) :=
                              ((hb.out.alloc hz _).trans (Grow.below hg9 (by simp; omega) (fun g hg => by have := hrow g hg; omega))).setCell (by simp) _
                            have HRP : Hid (ix = idxOf (d + 1) (HF.take (r + 1))) := by rw [Hid, HTK.out, idx_snoc, HIX0.out, if_pos hix]
                            have HSM : Hid (true = ((vs.map VD.pl).take (r + 1)).any (holdsB told)) := by rw [Hid, HANY.out, HBB.out, decide_eq_true hh, Bool.or_true]
                            have hw9 : w4.heap.size < (w9.setCell ⟨w4.heap.size, 2, none⟩ (.slice B' (r + 1) d')).heap.size := by simp; omega
                            clear ho9 hg9 hat9 hrow k9 c1' c2' cu fu v0 v1 h0 ho hb hk
                            go_wp2
                            go_roundw
                            case rel => exact ⟨r + 1, by omega, by go_num, by rw [HSM.out], by rw [HRP.out], B', d', HK9, HO9, HB9, hw9⟩
                            case measure => simp [intOf]; omega
                          · have hix1 : decide (ix < 0) = true := by simp; omega
                            go_wp2_with (at_builtin; refine wpList_append_rd _ rfl (.tmp 185) (.tmp 187) 26 rfl (w4.heap.size + 1) 3 i0 _ 1 8 Try.underlying26 hi0 hz0 hz1 hz2 rfl (by omega) _ r _ rfl (ho.out.alloc _) _ 1 1 [.int .i64 (d + 1)] rfl (rd_new _ _ _) ?_ ?_ ?_ ?_ ?_)
                            · simp [Value.oneCell']
                            · unfold maxLen; omega
                            · omega
                            intro v' w9 ho9 hg9 hat9
                            obtain ⟨B', d', rfl, _⟩ := own_shape ho9
                            have hrow : ∀ g, (Value.slice B r c').ownBlock = some g → w4.heap.size + 1 ≤ g := fun g hg => (ho.out.lt g hg).1
                            have k9 : Blk w9 w4.heap.size 28 #[.bool true, .int .i64 first, .slice B r c', .bool key] := (hk.out.alloc _).grown hg9 (fun e => by have := hrow _ e.symm; omega)
                            have z9 := hg9.size
                            simp only [World.size_alloc] at z9
                            have c9 := k9.cell
                            have f9 := k9.frozen
                            have HK9 := Lib.hid (k9.put 2 (.slice B' (r + 1) d'))
                            simp only [List.setIfInBounds_toArray, List.set_cons_succ, List.set_cons_zero] at HK9
                            have HO9 : Hid ((w9.setCell ⟨w4.heap.size, 2, none⟩ (.slice B' (r + 1) d')).ownsRow (w4.heap.size + 1) 3 1 (.slice B' (r + 1) d') (r + 1) (ints (HF.take (r + 1)))) := by
                              rw [HTK.out, ints_snoc, HHV.out]
                              exact ownsRow_setCell_below (by simpa using ho9) (by simp) _
                            have HB9 : Hid (Below w4.heap.size w4 (w9.setCell ⟨w4.heap.size, 2, none⟩ (.slice B' (r + 1) d'))) :=
                              ((hb.out.alloc hz _).trans (Grow.below hg9 (by simp; omega) (fun g hg => by have := hrow g hg; omega))).setCell (by simp) _
                            have HRP : Hid ((r : Int) = idxOf (d + 1) (HF.take (r + 1))) := by rw [Hid, HTK.out, HHV.out, idx_snoc, HIX0.out, if_neg (by omega), if_pos (by simp), HTL2.out]
                            have HSM : Hid (true = ((vs.map VD.pl).take (r + 1)).any (holdsB told)) := by rw [Hid, HANY.out, HBB.out, decide_eq_true hh, Bool.or_true]
                            have hw9 : w4.heap.size < (w9.setCell ⟨w4.heap.size, 2, none⟩ (.slice B' (r + 1) d')).heap.size := by simp; omega
                            clear ho9 hg9 hat9 hrow k9 c1' c2' cu fu v0 v1 h0 ho hb hk
                            go_wp2
                            go_roundw
                            case rel => exact ⟨r + 1, by omega, by go_num, by rw [HSM.out], by rw [HRP.out], B', d', HK9, HO9, HB9, hw9⟩
                            case measure => simp [intOf]; omega
                        · obtain rfl : h = d + 1 := by omega
                          have HHV : Hid (hv = d + 1) := by rw [Hid, HHD.out, if_pos hh, if_pos (by omega)]
                          have hd2 : d + 1 < d + 1 + 1 := by omega
                          have hd3 : (d + 1 == d + 1) = true := by simp
                          by_cases hix : 0 ≤ ix
                          · have hix1 : decide (ix < 0) = false := by simp; omega
                            go_wp2_with (at_builtin; refine wpList_append_rd _ rfl (.tmp 185) (.tmp 187) 26 rfl (w4.heap.size + 1) 3 i0 _ 1 8 Try.underlying26 hi0 hz0 hz1 hz2 rfl (by omega) _ r _ rfl (ho.out.alloc _) _ 1 1 [.int .i64 (d + 1)] rfl (rd_new _ _ _) ?_ ?_ ?_ ?_ ?_)
                            · simp [Value.oneCell']
                            · unfold maxLen; omega
                            · omega
                            intro v' w9 ho9 hg9 hat9
                            obtain ⟨B', d', rfl, _⟩ := own_shape ho9
                            have hrow : ∀ g, (Value.slice B r c').ownBlock = some g → w4.heap.size + 1 ≤ g := fun g hg => (ho.out.lt g hg).1
                            have k9 : Blk w9 w4.heap.size 28 #[.bool true, .int .i64 first, .slice B r c', .bool key] := (hk.out.alloc _).grown hg9 (fun e => by have := hrow _ e.symm; omega)
                            have z9 := hg9.size
                            simp only [World.size_alloc] at z9
                            have c9 := k9.cell
                            have f9 := k9.frozen
                            have HK9 := Lib.hid (k9.put 2 (.slice B' (r + 1) d'))
                            simp only [List.setIfInBounds_toArray, List.set_cons_succ, List.set_cons_zero] at HK9
                            have HO9 : Hid ((w9.setCell ⟨w4.heap.size, 2, none⟩ (.slice B' (r + 1) d')).ownsRow (w4.heap.size + 1) 3 1 (.slice B' (r + 1) d') (r + 1) (ints (HF.take (r + 1)))) := by
                              rw [HTK.out, ints_snoc, HHV.out]
                              exact ownsRow_setCell_below (by simpa using ho9) (by simp) _
                            have HB9 : Hid (Below w4.heap.size w4 (w9.setCell ⟨w4.heap.size, 2, none⟩ (.slice B' (r + 1) d'))) :=
                              ((hb.out.alloc hz _).trans (Grow.below hg9 (by simp; omega) (fun g hg => by have := hrow g hg; omega))).setCell (by simp) _
                            have HRP : Hid (ix = idxOf (d + 1) (HF.take (r + 1))) := by rw [Hid, HTK.out, idx_snoc, HIX0.out, if_pos hix]
                            have HSM : Hid (true = ((vs.map VD.pl).take (r + 1)).any (holdsB told)) := by rw [Hid, HANY.out, HBB.out, decide_eq_true hh, Bool.or_true]
                            have hw9 : w4.heap.size < (w9.setCell ⟨w4.heap.size, 2, none⟩ (.slice B' (r + 1) d')).heap.size := by simp; omega
                            clear ho9 hg9 hat9 hrow k9 c1' c2' cu fu v0 v1 h0 ho hb hk
                            go_wp2
                            go_roundw
                            case rel => exact ⟨r + 1, by omega, by go_num, by rw [HSM.out], by rw [HRP.out], B', d', HK9, HO9, HB9, hw9⟩
                            case measure => simp [intOf]; omega
                          · have hix1 : decide (ix < 0) = true := by simp; omega
                            go_wp2_with (at_builtin; refine wpList_append_rd _ rfl (.tmp 185) (.tmp 187) 26 rfl (w4.heap.size + 1) 3 i0 _ 1 8 Try.underlying26 hi0 hz0 hz1 hz2 rfl (by omega) _ r _ rfl (ho.out.alloc _) _ 1 1 [.int .i64 (d + 1)] rfl (rd_new _ _ _) ?_ ?_ ?_ ?_ ?_)
                            · simp [Value.oneCell']
                            · unfold maxLen; omega
                            · omega
                            intro v' w9 ho9 hg9 hat9
                            obtain ⟨B', d', rfl, _⟩ := own_shape ho9
                            have hrow : ∀ g, (Value.slice B r c').ownBlock = some g → w4.heap.size + 1 ≤ g := fun g hg => (ho.out.lt g hg).1
                            have k9 : Blk w9 w4.heap.size 28 #[.bool true, .int .i64 first, .slice B r c', .bool key] := (hk.out.alloc _).grown hg9 (fun e => by have := hrow _ e.symm; omega)
                            have z9 := hg9.size
                            simp only [World.size_alloc] at z9
                            have c9 := k9.cell
                            have f9 := k9.frozen
                            have HK9 := Lib.hid (k9.put 2 (.slice B' (r + 1) d'))
                            simp only [List.setIfInBounds_toArray, List.set_cons_succ, List.set_cons_zero] at HK9
                            have HO9 : Hid ((w9.setCell ⟨w4.heap.size, 2, none⟩ (.slice B' (r + 1) d')).ownsRow (w4.heap.size + 1) 3 1 (.slice B' (r + 1) d') (r + 1) (ints (HF.take (r + 1)))) := by
                              rw [HTK.out, ints_snoc, HHV.out]
                              exact ownsRow_setCell_below (by simpa using ho9) (by simp) _
                            have HB9 : Hid (Below w4.heap.size w4 (w9.setCell ⟨w4.heap.size, 2, none⟩ (.slice B' (r + 1) d'))) :=
                              ((hb.out.alloc hz _).trans (Grow.below hg9 (by simp; omega) (fun g hg => by have := hrow g hg; omega))).setCell (by simp) _
                            have HRP : Hid ((r : Int) = idxOf (d + 1) (HF.take (r + 1))) := by rw [Hid, HTK.out, HHV.out, idx_snoc, HIX0.out, if_neg (by omega), if_pos (by simp), HTL2.out]
                            have HSM : Hid (true = ((vs.map VD.pl).take (r + 1)).any (holdsB told)) := by rw [Hid, HANY.out, HBB.out, decide_eq_true hh, Bool.or_true]
                            have hw9 : w4.heap.size < (w9.setCell ⟨w4.heap.size, 2, none⟩ (.slice B' (r + 1) d')).heap.size := by simp; omega
                            clear ho9 hg9 hat9 hrow k9 c1' c2' cu fu v0 v1 h0 ho hb hk
                            go_wp2
                            go_roundw
                            case rel => exact ⟨r + 1, by omega, by go_num, by rw [HSM.out], by rw [HRP.out], B', d', HK9, HO9, HB9, hw9⟩
                            case measure => simp [intOf]; omega
                    · have HHV : Hid (hv = 0) := by rw [Hid, HHD.out, if_neg hh]
                      have hh' : decide (need ≤ (V : Int)) = false := by simpa using hh
                      have hd3 : (0 == d + 1) = false := by simp; omega
                      go_wp2_with (at_builtin; refine wpList_append_rd _ rfl (.tmp 185) (.tmp 187) 26 rfl (w4.heap.size + 1) 3 i0 _ 1 8 Try.underlying26 hi0 hz0 hz1 hz2 rfl (by omega) _ r _ rfl (ho.out.alloc _) _ 1 1 [.int .i64 (0)] rfl (rd_new _ _ _) ?_ ?_ ?_ ?_ ?_)
                      · simp [Value.oneCell']
                      · unfold maxLen; omega
                      · omega
                      intro v' w9 ho9 hg9 hat9
                      obtain ⟨B', d', rfl, _⟩ := own_shape ho9
                      have hrow : ∀ g, (Value.slice B r c').ownBlock = some g → w4.heap.size + 1 ≤ g := fun g hg => (ho.out.lt g hg).1
                      have k9 : Blk w9 w4.heap.size 28 #[.bool true, .int .i64 first, .slice B r c', .bool key] := (hk.out.alloc _).grown hg9 (fun e => by have := hrow _ e.symm; omega)
                      have z9 := hg9.size
                      simp only [World.size_alloc] at z9
                      have c9 := k9.cell
                      have f9 := k9.frozen
                      have HK9 := Lib.hid (k9.put 2 (.slice B' (r + 1) d'))
                      simp only [List.setIfInBounds_toArray, List.set_cons_succ, List.set_cons_zero] at HK9
                      have HO9 : Hid ((w9.setCell ⟨w4.heap.size, 2, none⟩ (.slice B' (r + 1) d')).ownsRow (w4.heap.size + 1) 3 1 (.slice B' (r + 1) d') (r + 1) (ints (HF.take (r + 1)))) := by
                        rw [HTK.out, ints_snoc, HHV.out]
                        exact ownsRow_setCell_below (by simpa using ho9) (by simp) _
                      have HB9 : Hid (Below w4.heap.size w4 (w9.setCell ⟨w4.heap.size, 2, none⟩ (.slice B' (r + 1) d'))) :=
                        ((hb.out.alloc hz _).trans (Grow.below hg9 (by simp; omega) (fun g hg => by have := hrow g hg; omega))).setCell (by simp) _
                      have HRP : Hid (ix = idxOf (d + 1) (HF.take (r + 1))) := by rw [Hid, HTK.out, HHV.out, ← HIX0.out, idx_keep (by simp; omega)]
                      have HSM : Hid (sm0 = ((vs.map VD.pl).take (r + 1)).any (holdsB told)) := by rw [Hid, HANY.out, HBB.out, hh', Bool.or_false]
                      have hw9 : w4.heap.size < (w9.setCell ⟨w4.heap.size, 2, none⟩ (.slice B' (r + 1) d')).heap.size := by simp; omega
                      clear ho9 hg9 hat9 hrow k9 c1' c2' cu fu v0 v1 h0 ho hb hk
                      go_wp2
                      go_roundw
                      case rel => exact ⟨r + 1, by omega, by go_num, by rw [HSM.out], by rw [HRP.out], B', d', HK9, HO9, HB9, hw9⟩
                      case measure => simp [intOf]; omega
              · obtain rfl : r = q := by omega
                have htk : HF.take r = HF := List.take_of_length_le (by rw [HFL.out]; exact Nat.le_refl _)
                have htv : (vs.map VD.pl).take r = vs.map VD.pl := List.take_of_length_le (by rw [HLV.out]; exact Nat.le_refl _)
                have HO9 : Hid (wr.ownsRow (w4.heap.size + 1) 3 1 (.slice B r c') r (ints HF)) := by
                  have h := ho.out
                  rw [htk] at h
                  exact h
                have BW := Lib.hid (BB.out.trans (hb.out.mono (by omega)))
                have c3' := (KC.out.below hb.out).cell
                have f3' := (KC.out.below hb.out).frozen
                rw [htk, htv]
                generalize hixx : idxOf (d + 1) HF = ix at *
                have HIX9 : Hid (idxOf (d + 1) HF = ix) := hixx
                clear hixx
                generalize (vs.map VD.pl).any (holdsB told) = sm at *
                clear ho hb htk htv
                cases hk1 : (key && !tkey && !sm)
                · have HNN : Hid (NF = ⟨true, first, HF, key⟩) := by rw [Hid, hNF.out, if_neg (by decide), if_neg (by rw [hk1]; decide)]
                  cases key
                  · clear hk1
                    go_wp2
                    refine bodyPost_ret (v := .tuple #[tripV true first B r c' false, .int .i64 0]) ?_ rfl ?_
                    · simp [results, Try.results15, go_sem, c3']
                    · rw [HTT.out, HNN.out]
                      refine trip_new HFL.out ?_ ?_
                      · refine own_weaken (base := w4.heap.size + 1) ?_ (by omega)
                        repeat' (first | (with_reducible exact HO9.out) | (with_reducible refine ownsRow_setCell_below ?_ ?_ _; rotate_left; (simp <;> omega)))
                      · repeat' (first | (with_reducible exact BW.out) | (with_reducible refine Below.setCell ?_ ?_ _; rotate_left; (simp <;> omega)))
                  · cases tkey
                    · cases sm
                      · simp at hk1
                      · clear hk1
                        go_wp2
                        refine bodyPost_ret (v := .tuple #[tripV true first B r c' true, .int .i64 0]) ?_ rfl ?_
                        · simp [results, Try.results15, go_sem, c3']
                        · rw [HTT.out, HNN.out]
                          refine trip_new HFL.out ?_ ?_
                          · refine own_weaken (base := w4.heap.size + 1) ?_ (by omega)
                            repeat' (first | (with_reducible exact HO9.out) | (with_reducible refine ownsRow_setCell_below ?_ ?_ _; rotate_left; (simp <;> omega)))
                          · repeat' (first | (with_reducible exact BW.out) | (with_reducible refine Below.setCell ?_ ?_ _; rotate_left; (simp <;> omega)))
                    · clear hk1
                      go_wp2
                      refine bodyPost_ret (v := .tuple #[tripV true first B r c' true, .int .i64 0]) ?_ rfl ?_
                      · simp [results, Try.results15, go_sem, c3']
                      · rw [HTT.out, HNN.out]
                        refine trip_new HFL.out ?_ ?_
                        · refine own_weaken (base := w4.heap.size + 1) ?_ (by omega)
                          repeat' (first | (with_reducible exact HO9.out) | (with_reducible refine ownsRow_setCell_below ?_ ?_ _; rotate_left; (simp <;> omega)))
                        · repeat' (first | (with_reducible exact BW.out) | (with_reducible refine Below.setCell ?_ ?_ _; rotate_left; (simp <;> omega)))
                · have HNN : Hid (NF = ⟨false, -1, HF, key⟩) := by rw [Hid, hNF.out, if_neg (by decide), if_pos hk1]
                  simp only [Bool.and_eq_true, Bool.not_eq_true'] at hk1
                  obtain ⟨⟨rfl, rfl⟩, rfl⟩ := hk1
                  go_wp2
                  refine bodyPost_ret (v := .tuple #[tripV false (-1) B r c' true, .int .i64 0]) ?_ rfl ?_
                  · simp [results, Try.results15, go_sem, c3']
                  · rw [HTT.out, HNN.out]
                    refine trip_new HFL.out ?_ ?_
                    · refine own_weaken (base := w4.heap.size + 1) ?_ (by omega)
                      repeat' (first | (with_reducible exact HO9.out) | (with_reducible refine ownsRow_setCell_below ?_ ?_ _; rotate_left; (simp <;> omega)))
                    · repeat' (first | (with_reducible exact BW.out) | (with_reducible refine Below.setCell ?_ ?_ _; rotate_left; (simp <;> omega)))
      · have hm' : ((tl : Int) != m) = true := by simpa using hm
        have HTT : Hid (TT = (zeroT, 4)) := by rw [Hid, HT.out, if_pos hm]
        go_wp2
        refine bodyPost_ret (v := .tuple #[tripV false 0 none 0 0 false, .int .i64 4]) ?_ rfl ?_
        · simp [results, Try.results15, go_sem, c3']
        · rw [HTT.out]
          refine trip_nil ?_
          repeat' (first | (with_reducible exact BB.out) | (with_reducible refine Below.setCell ?_ ?_ _; rotate_left; (simp <;> omega)) | (with_reducible refine Below.alloc ?_ ?_ _; rotate_left; (simp <;> omega)))
end Go.Proofs.Ytdofkakbfolpkaa.Sf
