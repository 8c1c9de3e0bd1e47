/-
  A step of a guard by safety's Step: what the plain step says, with a row of its own. Conditions: the guard, the trip and what is told read, within the reach.
-/
import Derived.Test.YtdofkakbfolpkaaSg3
import Derived.Test.YtdofkakbfolpkaaMake
namespace Go.Proofs.Ytdofkakbfolpkaa.Sf
open Go.RowKit Go.Proofs.Ytdofkakbfolpkaa.W Go.Proofs.Ytdofkakbfolpkaa.Ints Go.Proofs.Ytdofkakbfolpkaa.Pop

theorem told_next {told : List Int} {k : Nat} {x : Int} (hk : k < told.length) (h : (told.take k).any (outB 0 3) = false) (hx : told.getD k 0 = x) (hb : outB 0 3 x = false) : (told.take (k + 1)).any (outB 0 3) = false := any_next hk h (by rw [hx]; exact hb)
theorem told_bad {told : List Int} {k : Nat} {x : Int} (hk : k < told.length) (hx : told.getD k 0 = x) (hb : outB 0 3 x = true) : toldB told = true := any_at hk (by rw [hx]; exact hb)
theorem any_step {ps : List (Int × List Int)} {f : Int × List Int → Bool} {k : Nat} {p : Int × List Int} (h : ps[k]? = some p) : (ps.take (k + 1)).any f = ((ps.take k).any f || f p) := by
  have hk := (List.getElem?_eq_some_iff.1 h).1
  rw [List.getElem?_eq_getElem hk] at h
  injection h with h
  rw [List.take_succ_eq_append_getElem hk, List.any_append, h]
  simp
theorem not_bad {m : Int} {ps : List (Int × List Int)} {k : Nat} {p : Int × List Int} (h : ps.any (badV m) = false) (hp : ps[k]? = some p) : badV m p = false := by
  rw [List.any_eq_false] at h
  have := h p (List.mem_of_getElem? hp)
  simpa using this
theorem good_vote {m need : Int} {of : List Int} (h : badV m (need, of) = false) : (∀ x ∈ of, 0 ≤ x ∧ x < m) ∧ of.Nodup ∧ 1 ≤ need ∧ need ≤ of.length := by
  have h0 : codeF m need of = 0 := by simpa [badV] using h
  unfold codeF at h0
  split at h0
  · simp at h0
  · split at h0
    · simp at h0
    · rename_i h1
      split at h0
      · rename_i h2
        split at h0
        · simp at h0
        · exact ⟨in_of_not_any (by simpa using h1), h2, by omega, by omega⟩
      · simp at h0
theorem in_of_not_any' {m : Int} {xs : List Int} (h : xs.any (outB 0 m) = false) : ∀ x ∈ xs, 0 ≤ x ∧ x < m := in_of_not_any h
theorem set_at {ps : List (Int × List Int)} {k : Nat} {p : Int × List Int} (hp : ps[k]? = some p) : ((ps.map fun p => setF p.2).map setV)[k]? = some (.int .u64 (setF p.2 : Int)) := by simp [hp, setV]

set_option maxRecDepth 100000 in
set_option maxHeartbeats 6400000 in
theorem step_main (m d : Int) (Q : Option Addr) (n c : Nat) (vs : List VD) (T : TR) (A : Option Addr) (e : Nat) (told : List Int) (Z : Option Addr) (tl z : Nat) (key : Bool) (w : World) (hr : GRd w Q n vs)
    (ht : Rd w 1 A T.held.length (ints T.held)) (ht8 : T.held.length * 8 ≤ 140737488351232) (hz : Rd w 1 Z tl (ints told)) (hz8 : tl * 8 ≤ 140737488351232) (h : (guardF m d (vs.map VD.pl)).1 = 0) (h2 : standsB d n T = true) (h3 : (tl : Int) = m) :
    Calls Try.prog 16 #[guardV m d Q n c, tripV T.down T.first A T.held.length e T.key, .slice Z tl z, .bool key] w fun x w' => TripT w w' x (stepF m d (vs.map VD.pl) T told key) := by
  have hlv : (vs.map VD.pl).length = n := by rw [List.length_map]; exact hr.len
  obtain ⟨n16, m1, m64, n1, d0, d1, hall⟩ := guard_len h
  rw [hlv] at n16 n1
  have hS : setsF m d (vs.map VD.pl) = (vs.map VD.pl).map fun p => setF p.2 := by unfold setsF; rw [if_pos h]
  have HSE : Hid (∀ W : World, GRd W Q n vs → Calls Try.prog 22 #[guardV m d Q n c] W fun e w' => SetsT W w' e m d (vs.map VD.pl)) := fun W h => sets_any m d Q n c vs W h
  unfold SetsT at HSE
  have hSL : (setsF m d (vs.map VD.pl)).length = n := by rw [hS, List.length_map, hlv]
  rw [hSL] at HSE
  have HSTD : Hid (∀ (W : World), Rd W 1 A T.held.length (ints T.held) → Calls Try.prog 23 #[guardV m d Q n c, tripV T.down T.first A T.held.length e T.key] W fun x w' => x = .returned (.bool (standsB d n T)) ∧ Below W.heap.size W w') := fun W h => stands_any m d Q n c T A e W h ht8 n16 d0 d1
  have HR := Lib.hid hr
  have HTR := Lib.hid ht
  have HZ := Lib.hid hz
  have HZL := Lib.hid (rd_len hz)
  have HS := Lib.hid hS
  have HALL := Lib.hid hall
  have HLV := Lib.hid hlv
  have hT : stepF m d (vs.map VD.pl) T told key = if toldB told = true then (zeroT, 3) else (nextF d (vs.map VD.pl) T told key, 0) := by
    unfold stepF
    rw [if_neg (by rw [h]; decide), hlv, if_neg (by rw [h2]; decide), if_neg (by rw [HZL.out, h3]; simp)]
  rw [h2] at HSTD
  have hhn : T.held.length = n := by
    unfold standsB at h2
    simp only [Bool.and_eq_true, decide_eq_true_eq] at h2
    exact h2.1.1.1.1
  obtain ⟨down, first, hs, tkey⟩ := T
  have hNX : Hid (nextF d (vs.map VD.pl) ⟨down, first, hs, tkey⟩ told key = nextF d (vs.map VD.pl) ⟨down, first, hs, tkey⟩ told key) := rfl
  generalize hTT : stepF m d (vs.map VD.pl) ⟨down, first, hs, tkey⟩ told key = TT at *
  simp only at *
  generalize setsF m d (vs.map VD.pl) = SS at *
  generalize guardF m d (vs.map VD.pl) = G at *
  obtain ⟨C, U⟩ := G
  simp only at h
  subst h
  generalize hhl : hs.length = l at *
  subst hhn
  have H3 := Lib.hid h3
  have HST := Lib.hid h2
  have HT := Lib.hid hT
  have HHN := Lib.hid hhl
  have hm64 : tl ≤ 64 := by omega
  clear hr ht hz hS hall hT hlv hSL hTT hNX h2 hhl h3
  go_enter Try.func16, Try.ntmps16
  go_wp2_with fail
  refine (HSE.out _ (((HR.out.alloc _).alloc _).alloc _)).mono ?_
  rintro x w1 ⟨B, c1, rfl, ho, hb⟩
  obtain ⟨k1, k2, k3, hb2, z1, z2, z3⟩ := call3 hb
  have K1 := Lib.hid (k1.alloc (.cells #[.int .i64 0, .int .i64 U, .int .i64 0] 33))
  have K2 := Lib.hid (k2.alloc (.cells #[.int .i64 0, .int .i64 U, .int .i64 0] 33))
  have K3 := Lib.hid (k3.alloc (.cells #[.int .i64 0, .int .i64 U, .int .i64 0] 33))
  have K4 := Lib.hid (Blk.new w1 33 #[.int .i64 0, .int .i64 U, .int .i64 0])
  have HB := Lib.hid (hb2.alloc (by omega) (.cells #[.int .i64 0, .int .i64 U, .int .i64 0] 33))
  have hbs := hb.size
  simp only [World.size_alloc] at hbs ho
  have HO := Lib.hid (own_below (own_weaken ho (base' := w.heap.size) (by omega)) (below_alloc (.cells #[.int .i64 0, .int .i64 U, .int .i64 0] 33)))
  have c1' := k1.cell
  have c2' := k2.cell
  have c3' := k3.cell
  clear hb hb2 k1 k2 k3 ho
  go_wp2_with fail
  refine (HSTD.out _ ((HTR.out.below HB.out))).mono ?_
  rintro x w2 ⟨rfl, hb⟩
  have hbs2 := hb.size
  simp only [World.size_alloc] at hbs2
  have KA := Lib.hid (K1.out.below hb)
  have KB := Lib.hid (K2.out.below hb)
  have KC := Lib.hid (K3.out.below hb)
  have OO := Lib.hid (own_below HO.out hb)
  have B2 := Lib.hid (HB.out.trans (hb.mono (by simp; omega)))
  have z1' : w.heap.size < w2.heap.size := by omega
  have z2' : w.heap.size + 1 < w2.heap.size := by omega
  have z3' : w.heap.size + 2 < w2.heap.size := by omega
  have c1' := KA.out.cell
  have c3' := KC.out.cell
  have f3' := KC.out.frozen
  have hne : ((tl : Int) != m) = false := by have := H3.out; simp; omega
  clear hb c2' HB K1 K2 K3 HO
  go_wp2
  go_loop [12, 13, 14, 47, 54, 56] (fun s _ _ i _ _ => ∃ k : Nat, k ≤ tl ∧ i = .int .i64 k ∧ s = .int .u64 (dmTo told k : Int) ∧ Hid ((told.take k).any (outB 0 3) = false)) (fun _ _ _ i _ _ => tl - (intOf i).toNat)
  case atStart => exact ⟨0, Nat.zero_le _, rfl, rfl, by simp [Hid]⟩
  case round =>
    obtain ⟨k, hk, rfl, rfl, ha⟩ := hrel
    by_cases hlt : k < tl
    · obtain ⟨b, o, rfl, hc⟩ := rd_at (HZ.out.below B2.out) (by omega)
      have h1 := hc k hlt
      clear hc
      have hkl : k < told.length := by rw [HZL.out]; exact hlt
      have hk0 : (0 : Int) ≤ (k : Int) := by omega
      have hkv : (k : Int) < (tl : Int) := by omega
      generalize hx : told.getD k 0 = x at *
      have HX := Lib.hid hx
      have HDL := Lib.hid (dm_lt (told := told) (k := k) (by omega))
      have hcase : x = 0 ∨ x = 1 ∨ x = 2 ∨ outB 0 3 x = true := by
        simp [outB]; omega
      clear hx
      rcases hcase with rfl | rfl | rfl | hout
      · have HD := Lib.hid (dm_next_off (told := told) (k := k) (by rw [HX.out]; decide))
        have HA := Lib.hid (told_next hkl ha.out HX.out (by decide))
        go_wp2
        go_round
        case rel => exact ⟨k + 1, by omega, by go_num, by rw [HD.out], HA⟩
        case measure => simp [intOf]; omega
      · have HD := Lib.hid (dm_next_on (told := told) (k := k) (by rw [HX.out]; decide))
        have HA := Lib.hid (told_next hkl ha.out HX.out (by decide))
        go_wp2
        go_round
        case rel => exact ⟨k + 1, by omega, by go_num, by rw [or_bit HDL.out (by omega), HD.out], HA⟩
        case measure => simp [intOf]; omega
      · have HD := Lib.hid (dm_next_on (told := told) (k := k) (by rw [HX.out]; decide))
        have HA := Lib.hid (told_next hkl ha.out HX.out (by decide))
        go_wp2
        go_round
        case rel => exact ⟨k + 1, by omega, by go_num, by rw [or_bit HDL.out (by omega), HD.out], HA⟩
        case measure => simp [intOf]; omega
      · have HTT : Hid (TT = (zeroT, 3)) := HT.out.trans (if_pos (told_bad hkl HX.out hout))
        have e0 : (x == 0) = false := by simp [outB] at hout ⊢; omega
        have e1 : (x == 1) = false := by simp [outB] at hout ⊢; omega
        have e2 : (x == 2) = false := by simp [outB] at hout ⊢; omega
        clear hout
        go_wp2
        refine bodyPost_ret (v := .tuple #[tripV false 0 none 0 0 false, .int .i64 3]) ?_ rfl ?_
        · simp [results, Try.results16, go_sem, c3']
        · rw [HTT.out]
          refine trip_nil ?_
          repeat' (first | (with_reducible exact B2.out) | (with_reducible refine Below.setCell ?_ ?_ _; rotate_left; (simp <;> omega)) | (with_reducible refine Below.alloc ?_ ?_ _; rotate_left; (simp <;> omega)))
    · obtain rfl : k = tl := by omega
      have HTT : Hid (TT = (nextF d (vs.map VD.pl) ⟨down, first, hs, tkey⟩ told key, 0)) := by
        rw [Hid, HT.out, if_neg]
        have h := ha.out
        rw [List.take_of_length_le (by rw [HZL.out]; omega)] at h
        unfold toldB
        rw [h]
        decide
      have hmk := make_any l (by omega)
      have HDL := Lib.hid (dm_lt (told := told) (k := k) (by omega))
      have HPV : Hid (∀ of : List Int, (∀ x ∈ of, 0 ≤ x ∧ x < m) → of.Nodup → pop 64 (setF of &&& dmTo told k) = votesOn told of) := fun of h hn => by
        have := pop_vote m64 (by rw [HZL.out]; exact H3.out) h hn
        rw [HZL.out] at this
        exact this
      clear HT HSE HSTD ha
      go_wp2
      have HROW : Hid ((w2.alloc (.cells (noughts l) 3)).ownsRow w2.heap.size 3 1 (.slice (some ⟨w2.heap.size, 0, none⟩) l l) l (ints (rowTo d told (vs.map VD.pl) hs 0))) := by
        rw [row_zero, HLV.out]
        exact make_own l (by omega) w2 (Nat.le_refl _)
      have HBW : Hid (Below w2.heap.size w2 (w2.alloc (.cells (noughts l) 3))) := below_alloc _
      have hw2 : w2.heap.size < (w2.alloc (.cells (noughts l) 3)).heap.size := by simp
      generalize w2.alloc (.cells (noughts l) 3) = W3 at *
      clear hmk c1' c3' f3' K4 hlt
      go_loopw [16, 17, 18, 69] (fun calm _ _ i wr => ∃ q : Nat, q ≤ l ∧ i = .int .i64 q ∧ calm = .bool (!((vs.map VD.pl).take q).any (holdsB told)) ∧ Hid (wr.ownsRow w2.heap.size 3 1 (.slice (some ⟨w2.heap.size, 0, none⟩) l l) l (ints (rowTo d told (vs.map VD.pl) hs q))) ∧ Hid (Below w2.heap.size w2 wr) ∧ w2.heap.size < wr.heap.size) (fun _ _ _ i _ => l - (intOf i).toNat)
      case atStart => exact ⟨0, Nat.zero_le _, rfl, by simp, HROW, HBW, hw2⟩
      case round =>
        clear HROW HBW hw2
        obtain ⟨q, hq, rfl, rfl, ho, hb, hgw⟩ := hrel
        have c1' := (KA.out.below hb.out).cell
        have c2' := (KB.out.below hb.out).cell
        have hz := hb.out.size
        have l1' : w.heap.size < wr.heap.size := by omega
        have l2' : w.heap.size + 1 < wr.heap.size := by omega
        have l3' : w.heap.size + 2 < wr.heap.size := by omega
        by_cases hlt : q < l
        · obtain ⟨b, o, v, rfl, hvt, hbl, v0, v1, _, _, _⟩ := vote_at (HR.out.below (B2.out.trans (hb.out.mono (by omega)))) hlt
          have hpt := pl_at hvt
          have hgood := good_vote (not_bad HALL.out hpt)
          obtain ⟨need, A5, vn5, vc5, of⟩ := v
          simp only [VD.pl] at hpt hgood v0
          have hs64 := setF_lt m64 hgood.1
          have hpv := HPV.out of hgood.1 hgood.2.1
          have HSZ : Hid (∀ W, Calls Try.prog 24 #[.int .u64 (bits .and .u64 (setF of : Int) (dmTo told k : Int))] W fun e w' => e = .returned (.int .i64 (votesOn told of : Int)) ∧ w' = W) := by
            intro W
            rw [u64_and_i _ _ hs64 HDL.out, ← hpv]
            exact size_q _ W (Nat.lt_of_le_of_lt Nat.and_le_left hs64)
          have hrs := Rd.own (own_below OO.out (hb.out))
          have hvl : votesOn told of ≤ of.length := List.length_filter_le _ _
          obtain ⟨bs, os, e5, hcs⟩ := hrs.2 (by omega)
          subst e5
          have s0 := hcs q _ (by rw [HS.out]; exact set_at hpt)
          obtain ⟨bh, oh, e6, hch⟩ := rd_at (HTR.out.below (B2.out.trans (hb.out.mono (by omega)))) (by omega)
          subst e6
          have h0 := hch q hlt
          have hhb : 0 ≤ hs.getD q 0 ∧ hs.getD q 0 < d + 2 := by
            have h1 := HST.out
            unfold standsB at h1
            simp only [Bool.and_eq_true, Bool.not_eq_true'] at h1
            have hk' : q < hs.length := by rw [HHN.out]; exact hlt
            exact in_of_not_any' h1.2 _ (by simp [List.getD_eq_getElem?_getD, List.getElem?_eq_getElem hk'])
          have HAT := Lib.hid (held_at (d := d) (told := told) (by rw [HHN.out, HLV.out]) hpt)
          have HRN := Lib.hid (row_next (d := d) (told := told) (hs := hs) (by rw [HHN.out, HLV.out]) hpt)
          have HRS := Lib.hid (fun h => row_same (d := d) (told := told) (hs := hs) (by rw [HHN.out, HLV.out]) hpt h)
          have HANY := Lib.hid (any_step (f := holdsB told) hpt)
          have hhd : heldAt d told (need, of) (hs.getD q 0) = if need ≤ (votesOn told of : Int) then (if d + 1 ≤ hs.getD q 0 + 1 then d + 1 else hs.getD q 0 + 1) else 0 := by simp [heldAt, holdsB]
          have hbb : holdsB told (need, of) = decide (need ≤ (votesOn told of : Int)) := rfl
          have HHD := Lib.hid hhd
          have HBB := Lib.hid hbb
          generalize hs.getD q 0 = h at *
          generalize hVO : votesOn told of = V at *
          clear hcs hch hgood hpv hrs hvl hhd hbb hVO HST HPV
          have hq0 : (0 : Int) ≤ (q : Int) := by omega
          have hql : (q : Int) < (l : Int) := by omega
          by_cases hh : need ≤ (V : Int)
          · go_wp2
            go_quiet (((go_at_call 24; exact Calls.quiet_of_same (HSZ.out _))))
            go_wp2
            have hrl : (ints (rowTo d told (vs.map VD.pl) hs q)).length = l := by have := ho.out.1; simpa using this
            obtain ⟨u, hu⟩ : ∃ u, wr.cell? ⟨w2.heap.size, q, none⟩ = some u := by
              rw [ho.out.cellAt q (by omega)]
              exact ⟨_, List.getElem?_eq_getElem (by omega)⟩
            have hfz := ho.out.frozenAt q
            have e1 : IntKind.i64.wrap (h + 1) = h + 1 := by simp [IntKind.wrap, IntKind.bits, IntKind.signed]; omega
            have e2 : IntKind.i64.wrap (d + 1) = d + 1 := by simp [IntKind.wrap, IntKind.bits, IntKind.signed]; omega
            clear hrl
            go_region_law (fail)
            all_goals
              have key : ∀ (x : Int) (W9 : World), (wr.drewN (nq + 1)).setCell ⟨w2.heap.size, q, none⟩ (.int .i64 x) = W9 → x = heldAt d told (need, of) h →
                  Hid (W9.ownsRow w2.heap.size 3 1 (.slice (some ⟨w2.heap.size, 0, none⟩) l l) l (ints (rowTo d told (vs.map VD.pl) hs (q + 1)))) ∧ Hid (Below w2.heap.size w2 W9) ∧ wr.heap.size ≤ W9.heap.size := by
                rintro x W9 rfl rfl
                obtain ⟨g1, g2⟩ := (show (wr.drewN (nq + 1)).ownsRow w2.heap.size 3 1 (.slice (some ⟨w2.heap.size, 0, none⟩) l l) l (ints (rowTo d told (vs.map VD.pl) hs q)) from ho.out).stored q (.int .i64 (heldAt d told (need, of) h))
                rw [ints_set, ← HRN.out] at g1
                have hgb := Grow.below g2 (B := w2.heap.size) hz (fun g hg => by injection hg with hg; omega)
                exact ⟨g1, (below_drewN hb.out (nq + 1)).trans hgb, hgb.size⟩
              generalize hW9 : World.setCell (wr.drewN (nq + 1)) _ _ = W9
              obtain ⟨HO8, HB8, hz9⟩ := key _ _ hW9 (by rw [HHD.out, if_pos hh]; split <;> split <;> omega)
              have HNY : Hid (false = !((vs.map VD.pl).take (q + 1)).any (holdsB told)) := by rw [Hid, HANY.out, HBB.out, decide_eq_true hh, Bool.or_true]; rfl
              clear hW9 key u hu hfz e1 e2 ho hb c1' c2' v0 v1 s0 h0
              go_wp2
              go_roundw
              case rel => exact ⟨q + 1, by omega, by go_num, by rw [← HNY.out], HO8, HB8, by omega⟩
              case measure => simp [intOf]; omega
          · have hh' : decide (need ≤ (V : Int)) = false := by simpa using hh
            have HO8 := Lib.hid ho.out
            rw [← HRS.out (by rw [HHD.out, if_neg hh])] at HO8
            have HNY : Hid ((!((vs.map VD.pl).take q).any (holdsB told)) = !((vs.map VD.pl).take (q + 1)).any (holdsB told)) := by rw [Hid, HANY.out, HBB.out, hh', Bool.or_false]
            go_wp2
            go_quiet (((go_at_call 24; exact Calls.quiet_of_same (HSZ.out _))))
            go_wp2
            go_roundw
            case rel => exact ⟨q + 1, by omega, by go_num, by rw [HNY.out], HO8, below_drewN hb.out _, hgw⟩
            case measure => simp [intOf]; omega
        · obtain rfl : q = l := by omega
          have HO9 : Hid (wr.ownsRow w2.heap.size 3 1 (.slice (some ⟨w2.heap.size, 0, none⟩) q q) q (ints (heldF d told (vs.map VD.pl) hs))) := by
            have h := ho.out
            rw [← HLV.out, row_all (by rw [HHN.out, HLV.out])] at h
            rw [HLV.out] at h
            exact h
          have BB := Lib.hid (B2.out.trans (hb.out.mono (by omega)))
          have c3' := (KC.out.below hb.out).cell
          have f3' := (KC.out.below hb.out).frozen
          have HFL : Hid ((heldF d told (vs.map VD.pl) hs).length = q) := by rw [Hid, held_len (by rw [HHN.out, HLV.out]), HLV.out]
          have HCALM : Hid (((vs.map VD.pl).take q).any (holdsB told) = (vs.map VD.pl).any (holdsB told)) := by rw [Hid, List.take_of_length_le (by rw [HLV.out]; exact Nat.le_refl _)]
          have hNF := Lib.hid (show nextF d (vs.map VD.pl) ⟨down, first, hs, tkey⟩ told key = if down = false then ⟨decide (0 ≤ idxOf (d + 1) (heldF d told (vs.map VD.pl) hs)), idxOf (d + 1) (heldF d told (vs.map VD.pl) hs), heldF d told (vs.map VD.pl) hs, key⟩
            else if (key && !tkey && !((vs.map VD.pl).any (holdsB told))) = true then ⟨false, -1, heldF d told (vs.map VD.pl) hs, key⟩ else ⟨down, first, heldF d told (vs.map VD.pl) hs, key⟩ from rfl)
          rw [HCALM.out]
          have HIX : Hid (∀ W : World, Rd W 1 (some ⟨w2.heap.size, 0, none⟩) q (ints (heldF d told (vs.map VD.pl) hs)) → Calls Try.prog 25 #[.slice (some ⟨w2.heap.size, 0, none⟩) q q, .int .i64 (d + 1)] W fun e w' => e = .returned (.int .i64 (idxOf (d + 1) (heldF d told (vs.map VD.pl) hs))) ∧ w' = W) := fun W h => Index_any _ _ _ _ _ W h (by omega)
          generalize nextF d (vs.map VD.pl) ⟨down, first, hs, tkey⟩ told key = NF at *
          generalize idxOf (d + 1) (heldF d told (vs.map VD.pl) hs) = ix at *
          generalize heldF d told (vs.map VD.pl) hs = HF at *
          generalize (vs.map VD.pl).any (holdsB told) = sm at *
          have RR := Lib.hid (Rd.own HO9.out)
          clear ho hb HCALM HALL HST HPV hlt
          cases down
          · by_cases hix : 0 ≤ ix
            · have HNN : Hid (NF = ⟨true, ix, HF, key⟩) := by rw [Hid, hNF.out, if_pos rfl, decide_eq_true hix]
              go_wp2_with fail
              refine (HIX.out _ (RR.out.alloc _)).mono ?_
              rintro x w8 ⟨rfl, rfl⟩
              go_wp2
              refine bodyPost_ret (v := .tuple #[tripV true ix (some ⟨w2.heap.size, 0, none⟩) q q key, .int .i64 0]) ?_ rfl ?_
              · simp [results, Try.results16, go_sem, c3', l3']
              · rw [HTT.out, HNN.out]
                refine trip_new HFL.out ?_ ?_
                · refine own_weaken (base := w2.heap.size) ?_ (by omega)
                  repeat' (first | (with_reducible exact HO9.out) | (with_reducible refine own_far ?_ ?_ _; rotate_left; (simp <;> omega)) | (with_reducible refine own_below ?_ (below_alloc _)))
                · repeat' (first | (with_reducible exact BB.out) | (with_reducible refine Below.setCell ?_ ?_ _; rotate_left; (simp <;> omega)) | (with_reducible refine Below.alloc ?_ ?_ _; rotate_left; (simp <;> omega)))
            · have HNN : Hid (NF = ⟨false, ix, HF, key⟩) := by rw [Hid, hNF.out, if_pos rfl, decide_eq_false hix]
              have hix' : decide (0 ≤ ix) = false := decide_eq_false hix
              go_wp2_with fail
              refine (HIX.out _ (RR.out.alloc _)).mono ?_
              rintro x w8 ⟨rfl, rfl⟩
              go_wp2
              refine bodyPost_ret (v := .tuple #[tripV false ix (some ⟨w2.heap.size, 0, none⟩) q q key, .int .i64 0]) ?_ rfl ?_
              · simp [results, Try.results16, go_sem, c3', l3']
              · rw [HTT.out, HNN.out]
                refine trip_new HFL.out ?_ ?_
                · refine own_weaken (base := w2.heap.size) ?_ (by omega)
                  repeat' (first | (with_reducible exact HO9.out) | (with_reducible refine own_far ?_ ?_ _; rotate_left; (simp <;> omega)) | (with_reducible refine own_below ?_ (below_alloc _)))
                · repeat' (first | (with_reducible exact BB.out) | (with_reducible refine Below.setCell ?_ ?_ _; rotate_left; (simp <;> omega)) | (with_reducible refine Below.alloc ?_ ?_ _; rotate_left; (simp <;> omega)))
          · cases hk1 : (key && !tkey && !sm)
            · have HNN : Hid (NF = ⟨true, first, HF, key⟩) := by rw [Hid, hNF.out, if_neg (by decide), if_neg (by rw [hk1]; decide)]
              cases key
              · clear hk1
                go_wp2
                refine bodyPost_ret (v := .tuple #[tripV true first (some ⟨w2.heap.size, 0, none⟩) q q false, .int .i64 0]) ?_ rfl ?_
                · simp [results, Try.results16, go_sem, c3', l3']
                · rw [HTT.out, HNN.out]
                  refine trip_new HFL.out ?_ ?_
                  · refine own_weaken (base := w2.heap.size) ?_ (by omega)
                    repeat' (first | (with_reducible exact HO9.out) | (with_reducible refine own_far ?_ ?_ _; rotate_left; (simp <;> omega)) | (with_reducible refine own_below ?_ (below_alloc _)))
                  · repeat' (first | (with_reducible exact BB.out) | (with_reducible refine Below.setCell ?_ ?_ _; rotate_left; (simp <;> omega)) | (with_reducible refine Below.alloc ?_ ?_ _; rotate_left; (simp <;> omega)))
              · cases tkey
                · cases sm
                  · simp at hk1
                  · clear hk1
                    go_wp2
                    refine bodyPost_ret (v := .tuple #[tripV true first (some ⟨w2.heap.size, 0, none⟩) q q true, .int .i64 0]) ?_ rfl ?_
                    · simp [results, Try.results16, go_sem, c3', l3']
                    · rw [HTT.out, HNN.out]
                      refine trip_new HFL.out ?_ ?_
                      · refine own_weaken (base := w2.heap.size) ?_ (by omega)
                        repeat' (first | (with_reducible exact HO9.out) | (with_reducible refine own_far ?_ ?_ _; rotate_left; (simp <;> omega)) | (with_reducible refine own_below ?_ (below_alloc _)))
                      · repeat' (first | (with_reducible exact BB.out) | (with_reducible refine Below.setCell ?_ ?_ _; rotate_left; (simp <;> omega)) | (with_reducible refine Below.alloc ?_ ?_ _; rotate_left; (simp <;> omega)))
                · clear hk1
                  go_wp2
                  refine bodyPost_ret (v := .tuple #[tripV true first (some ⟨w2.heap.size, 0, none⟩) q q true, .int .i64 0]) ?_ rfl ?_
                  · simp [results, Try.results16, go_sem, c3', l3']
                  · rw [HTT.out, HNN.out]
                    refine trip_new HFL.out ?_ ?_
                    · refine own_weaken (base := w2.heap.size) ?_ (by omega)
                      repeat' (first | (with_reducible exact HO9.out) | (with_reducible refine own_far ?_ ?_ _; rotate_left; (simp <;> omega)) | (with_reducible refine own_below ?_ (below_alloc _)))
                    · repeat' (first | (with_reducible exact BB.out) | (with_reducible refine Below.setCell ?_ ?_ _; rotate_left; (simp <;> omega)) | (with_reducible refine Below.alloc ?_ ?_ _; rotate_left; (simp <;> omega)))
            · have HNN : Hid (NF = ⟨false, -1, HF, key⟩) := by rw [Hid, hNF.out, if_neg (by decide), if_pos hk1]
              simp only [Bool.and_eq_true, Bool.not_eq_true'] at hk1
              obtain ⟨⟨rfl, rfl⟩, rfl⟩ := hk1
              go_wp2
              refine bodyPost_ret (v := .tuple #[tripV false (-1) (some ⟨w2.heap.size, 0, none⟩) q q true, .int .i64 0]) ?_ rfl ?_
              · simp [results, Try.results16, go_sem, c3', l3']
              · rw [HTT.out, HNN.out]
                refine trip_new HFL.out ?_ ?_
                · refine own_weaken (base := w2.heap.size) ?_ (by omega)
                  repeat' (first | (with_reducible exact HO9.out) | (with_reducible refine own_far ?_ ?_ _; rotate_left; (simp <;> omega)) | (with_reducible refine own_below ?_ (below_alloc _)))
                · repeat' (first | (with_reducible exact BB.out) | (with_reducible refine Below.setCell ?_ ?_ _; rotate_left; (simp <;> omega)) | (with_reducible refine Below.alloc ?_ ?_ _; rotate_left; (simp <;> omega)))
end Go.Proofs.Ytdofkakbfolpkaa.Sf
