/-
  The reference's inLoop and Bound. Conditions: the text and the bounds read; the loops may be.
-/
import Derived.Test.YtiogcbckhaknmaaDoorVp4
import Derived.Test.YtiogcbckhaknmaaDoorVfA
namespace Go.Proofs.YtiogcbckhaknmaaDoor.Vf
open Go.RowKit Go.Proofs.YtiogcbckhaknmaaDoor.W Go.Proofs.YtiogcbckhaknmaaDoor.Ints Go.Proofs.YtiogcbckhaknmaaDoor.Cod Go.Proofs.YtiogcbckhaknmaaDoor.Cell

abbrev LP.val (l : LP) : Value := .agg #[.int .i64 l.fr, .int .i64 l.to, .int .i64 l.counter, .int .i64 l.times]
set_option maxRecDepth 100000 in
set_option maxHeartbeats 1600000 in
theorem inLoop_any (l : LP) (i : Int) (w : World) : Calls Tryd.prog 16 #[LP.val l, .int .i64 i] w fun e w' => e = .returned (.bool (decide (inL l i))) ∧ Below w.heap.size w w' := by
  obtain ⟨lf, lt, lc, lm⟩ := l
  go_enter Tryd.func16, Tryd.ntmps16
  go_upto_region 1 with fail
  have M0 := Lib.hid ((Mem.start w).alloc 53 #[.int .i64 (lf : Int), .int .i64 (lt : Int), .int .i64 lc, .int .i64 lm])
  generalize World.alloc _ _ = w1 at M0 ⊢
  generalize w.heap.size = gb at M0 ⊢
  have x0 : w1.cell? ⟨gb, 0, none⟩ = some (.int .i64 (lf : Int)) := M0.out.cellK 0 rfl 0
  have x1 : w1.cell? ⟨gb, 1, none⟩ = some (.int .i64 (lt : Int)) := M0.out.cellK 0 rfl 1
  by_cases h : (lf : Int) ≤ i
  · have hd : Hid (decide (i ≤ (lt : Int)) = decide (inL ⟨lf, lt, lc, lm⟩ i)) := Lib.hid (by simp [inL, h])
    go_wp2
    go_ret
    exact ⟨ret_bool hd.out, M0.out.bel⟩
  · have hd : Hid (false = decide (inL ⟨lf, lt, lc, lm⟩ i)) := Lib.hid (by simp [inL, h])
    go_wp2
    go_ret
    exact ⟨ret_bool hd.out, M0.out.bel⟩
def natL (bs : List Nat) : List Int := bs.map fun b : Nat => (b : Int)
theorem nat_at {w : World} {A : Option Addr} {m : Nat} {bs : List Nat} (h : Rd w 1 A m (ints (natL bs))) {k : Nat} (hk : k < m) : ∃ b o, A = some ⟨b, o, none⟩ ∧ w.cell? ⟨b, o + k, none⟩ = some (.int .i64 ((bs.getD k 0 : Nat) : Int)) := by
  obtain ⟨b, o, e, hc⟩ := h.2 (by omega)
  have hl : bs.length = m := by simpa [ints, natL] using h.1
  refine ⟨b, o, e, hc k _ ?_⟩
  simp [ints, natL, List.getD_eq_getElem?_getD, List.getElem?_eq_getElem (show k < bs.length by omega)]
set_option maxRecDepth 100000 in
set_option maxHeartbeats 12800000 in
theorem BoundR_any (A : Option Addr) (n c : Nat) (T : List IN) (B : Option Addr) (m d : Nat) (bs : List Nat) (w : World) (hT : Rd w 4 A n (textV T)) (hn : n ≤ 100000) (hB : Rd w 1 B m (ints (natL bs))) (hbs : BsOk bs) (hfit : FitOk T bs.length) (hLo : LoopsOk T) :
    Calls Tryd.prog 18 #[.slice A n c, .slice B m d] w fun e w' => e = .returned (.int .i64 (boundF T bs : Nat)) ∧ Below w.heap.size w w' := by
  have htl : T.length = n := Rd.rec_len IN.size (by omega) hT
  have hbl : bs.length = m := by simpa [ints, natL] using hB.1
  obtain ⟨R, hR⟩ : ∃ R, boundF T bs = R := ⟨_, rfl⟩
  rw [hR]
  have HR := Lib.hid hR
  have HT := Lib.hid hT
  have HTL := Lib.hid htl
  have HB := Lib.hid hB
  have HBS := Lib.hid hbs
  have HFIT := Lib.hid hfit
  have HLO := Lib.hid hLo
  have HLR := Lib.hid (fun w' h => LoopsR_any A n c T w' h hn)
  clear hT htl hB hbs hfit hLo hR
  rw [hbl] at HFIT
  have HBL := Lib.hid hbl
  clear hbl
  go_enter Tryd.func18, Tryd.ntmps18
  go_wp2_with fail
  refine (HLR.out w HT.out).mono ?_
  rintro e w1 (⟨_, A5, c5, rfl, hm⟩ | ⟨hno, _, _⟩)
  · dsimp only
    have M0 := Lib.hid hm
    clear hm HLR
    have hlen := loops_len (T := T) n
    have HTM := Lib.hid (times_ok (k := n) HFIT.out)
    obtain ⟨L, hL⟩ : ∃ L, loopsTo T n = L := ⟨_, rfl⟩
    rw [hL] at M0 hlen HTM ⊢
    have HL := Lib.hid hL
    obtain ⟨q, hq⟩ : ∃ q, L.length = q := ⟨_, rfl⟩
    rw [hq] at M0 hlen ⊢
    have HQ := Lib.hid hq
    clear hL hq
    have hbf : Hid (R = min (sumTo T L bs n) lidN) := Lib.hid (by
      rw [← HR.out]
      unfold boundF
      rw [HTL.out, HL.out])
    go_wp2
    go_loopw [7, 8] (fun v7 v8 wr => ∃ (k s : Nat), k ≤ n ∧ v8 = .int .i64 k ∧ v7 = .int .i64 s ∧ s ≤ 1000000000 ∧ Hid (s = sumTo T L bs k) ∧ Hid (∃ Ks, Mem w wr Ks [⟨53, 4, A5, q, c5, loopsV L⟩])) (fun _ v8 _ => n - (intOf v8).toNat)
    case atStart => exact ⟨0, 0, Nat.zero_le _, rfl, rfl, by omega, rfl, Lib.hid ⟨_, M0.out⟩⟩
    case round =>
      clear M0
      obtain ⟨k, s, hk, rfl, rfl, hs, HS, M0⟩ := hrel
      obtain ⟨Ks, M0⟩ := M0.out
      have M0 := Lib.hid M0
      by_cases hlt : k < n
      · obtain ⟨b, o, x, rfl, hx, hbl, c0, c1, c2, c3⟩ := instr_at (HT.out.below M0.out.bel) hlt
        have HX := Lib.hid hx
        obtain ⟨st1, st2⟩ := steps_bd (bs := bs) (by rw [HBL.out]; exact HFIT.out) HBS.out hx
        have hf := HFIT.out k x hx
        have hk0 : (0 : Int) ≤ (k : Int) := by omega
        have hkn : (k : Int) < (n : Int) := by omega
        clear hx hbl
        go_upto_if 27 with fail
        go_cut [9] from 22 to 32 (fun v9 wz => v9 = .int .i64 (if x.op = 16 then x.b else 1) ∧ wr = wz)
        case first =>
          by_cases h16 : x.op = 16
          · have hz : (x.op == 16) = true := by simp [h16]
            have HE : Hid ((if x.op = 16 then x.b else 1) = x.b) := Lib.hid (if_pos h16)
            clear h16 hf
            go_wp2
            go_meet
            exact ⟨by rw [HE.out], rfl⟩
          · have hz : (x.op == 16) = false := by simp [h16]
            have HE : Hid ((if x.op = 16 then x.b else 1) = 1) := Lib.hid (if_neg h16)
            clear h16 hf
            go_wp2
            go_meet
            exact ⟨by rw [HE.out], rfl⟩
        case rest =>
          obtain ⟨rfl, hwz⟩ := hcut
          subst hwz
          obtain ⟨n9, hn9⟩ : ∃ n9, (if x.op = 16 then x.b else 1) = n9 := ⟨_, rfl⟩
          rw [hn9]
          go_upto_if 38 with fail
          go_cut [9] from 33 to 48 (fun v9 wz => v9 = .int .i64 (stepsN bs x : Nat) ∧ wr = wz)
          case first =>
            by_cases h17 : x.op = 17
            · obtain ⟨f1, f2⟩ := hf.2.1 h17
              obtain ⟨an, han⟩ : ∃ an : Nat, x.a = (an : Int) := ⟨x.a.toNat, by omega⟩
              obtain ⟨b2, o2, e2, hc2⟩ := nat_at (HB.out.below M0.out.bel) (show an < m by omega)
              have hz : (x.op == 17) = true := by simp [h17]
              have h9 : n9 = 1 := by rw [← hn9, if_neg (by omega)]
              have HE : Hid (stepsN bs x = 1 + bs.getD an 0) := Lib.hid (by unfold stepsN; rw [if_neg (by omega), if_pos h17, han]; rfl)
              have hbd : bs.getD an 0 ≤ 1000000000 := by
                have := HE.out
                unfold lidN at st2
                omega
              subst e2 h9
              generalize bs.getD an 0 = bv at hc2 HE hbd
              rw [han] at c1
              have ha1 : (an : Int) < (m : Int) := by omega
              have ha0 : (0 : Int) ≤ (an : Int) := by omega
              clear hf f1 f2 hn9 h17
              go_wp2
              go_meet
              exact ⟨by rw [HE.out]; go_num, rfl⟩
            · have hz : (x.op == 17) = false := by simp [h17]
              have HE : Hid ((stepsN bs x : Int) = n9) := Lib.hid (by
                unfold stepsN
                rw [← hn9]
                by_cases h16 : x.op = 16
                · rw [if_pos h16, if_pos h16]
                  have := hf.1 h16
                  omega
                · rw [if_neg h16, if_neg h16, if_neg h17]
                  rfl)
              clear hf h17
              go_wp2
              go_meet
              exact ⟨by rw [HE.out], rfl⟩
          case rest =>
            obtain ⟨rfl, hwz⟩ := hcut
            subst hwz
            generalize hsn : stepsN bs x = sn at st1 st2 ⊢
            have HSN := Lib.hid hsn
            unfold lidN at st2
            clear hn9 hsn hf c0 c1 c2 c3
            have MK : Hid (∃ Ks, Mem w wr Ks [⟨53, 4, A5, q, c5, loopsV L⟩]) := Lib.hid ⟨_, M0.out⟩
            clear M0
            go_wp2
            go_loopw [9, 10] (fun v9 v10 wz => ∃ (j : Nat), j ≤ q ∧ v10 = .int .i64 j ∧ v9 = .int .i64 (refW (L.take j) k sn : Nat) ∧ Hid (∃ Ks, Mem w wz Ks [⟨53, 4, A5, q, c5, loopsV L⟩])) (fun _ v10 _ => q - (intOf v10).toNat)
            case atStart => exact ⟨0, Nat.zero_le _, rfl, rfl, MK⟩
            case round =>
              clear MK
              obtain ⟨j, hj, rfl, rfl, MK⟩ := hrel
              obtain ⟨Ks, MJ⟩ := MK.out
              have MJ := Lib.hid MJ
              have hrl := ref_le (i := k) (L := L.take j) (n := sn) (fun l hl => HTM.out l (mem_take hl)) (by unfold lidN; omega)
              unfold lidN at hrl
              by_cases hjq : j < q
              · obtain ⟨b5, o5, l, rfl, hl, hbl, d0, d1, d2, d3⟩ := loop_at (MJ.out.rdO 0 rfl) hjq
                obtain ⟨t1, t2⟩ := HTM.out l (List.mem_of_getElem? hl)
                have HSNC := Lib.hid (ref_snoc (i := k) (n := sn) hl)
                have HLL := Lib.hid hl
                generalize hrw : refW (L.take j) k sn = rw_ at hrl HSNC ⊢
                have hj0 : (0 : Int) ≤ (j : Int) := by omega
                have hjq2 : (j : Int) < (q : Int) := by omega
                clear hrw hl hbl
                go_wp2_with fail
                refine (inLoop_any l k wr).mono ?_
                rintro e w5 ⟨rfl, hb⟩
                dsimp only
                have MN := Lib.hid (MJ.out.below hb)
                clear hb d0 d1 d2 d3 MJ MK
                have MR : Hid (∃ Ks, Mem w w5 Ks [⟨53, 4, some ⟨b5, o5, none⟩, q, c5, loopsV L⟩]) := Lib.hid ⟨_, MN.out⟩
                by_cases hin : inL l k
                · have hi1 : decide (inL l k) = true := decide_eq_true hin
                  by_cases hlow : rw_ ≤ 1000000000
                  · have hl1 : (rw_ : Int) ≤ 1000000000 := by omega
                    have HW : Hid (((refW (L.take (j + 1)) k sn : Nat) : Int) = (rw_ : Int) * l.times) := Lib.hid (by
                      rw [HSNC.out]
                      unfold mulL
                      rw [if_pos ⟨hin, by unfold lidN; omega⟩]
                      rw [Int.natCast_mul, Int.toNat_of_nonneg (by omega)])
                    have hprod : (0 : Int) ≤ (rw_ : Int) * l.times ∧ (rw_ : Int) * l.times ≤ 10000000000000 := by
                      constructor
                      · exact Int.mul_nonneg (by omega) (by omega)
                      · calc (rw_ : Int) * l.times ≤ 1000000000 * 10000 := Int.mul_le_mul hl1 t2 (by omega) (by omega)
                          _ = 10000000000000 := by decide
                    obtain ⟨hp1, hp2⟩ := hprod
                    have hwm : IntKind.i64.wrap ((rw_ : Int) * l.times) = (rw_ : Int) * l.times := by
                      generalize (rw_ : Int) * l.times = z at hp1 hp2 ⊢
                      simp [IntKind.wrap, IntKind.bits, IntKind.signed]; omega
                    obtain ⟨b6, o6, l', e6, hl', _, d0, d1, d2, d3⟩ := loop_at (MN.out.rdO 0 rfl) hjq
                    injection e6 with e6
                    injection e6 with e7 e8
                    subst e7 e8
                    obtain rfl := Option.some.inj (HLL.out.symm.trans hl')
                    clear hl' hin hlow
                    go_wp2
                    go_roundw
                    case rel => exact ⟨j + 1, by omega, by go_num, by rw [HW.out], MR⟩
                    case measure => simp [intOf]; omega
                  · have hl1 : ¬ (rw_ : Int) ≤ 1000000000 := by omega
                    have HW : Hid (refW (L.take (j + 1)) k sn = rw_) := Lib.hid (by
                      rw [HSNC.out]
                      unfold mulL
                      rw [if_neg (fun h => by have := h.2; unfold lidN at this; omega)])
                    clear hin hlow
                    go_wp2
                    go_roundw
                    case rel => exact ⟨j + 1, by omega, by go_num, by rw [HW.out], MR⟩
                    case measure => simp [intOf]; omega
                · have hi1 : decide (inL l k) = false := decide_eq_false hin
                  have HW : Hid (refW (L.take (j + 1)) k sn = rw_) := Lib.hid (by
                    rw [HSNC.out]
                    unfold mulL
                    rw [if_neg (fun h => hin h.1)])
                  clear hin
                  go_wp2
                  go_roundw
                  case rel => exact ⟨j + 1, by omega, by go_num, by rw [HW.out], MR⟩
                  case measure => simp [intOf]; omega
              · obtain rfl : j = q := by omega
                have hjj : ¬ (j : Int) < (j : Int) := by omega
                rw [show L.take j = L from List.take_of_length_le (by rw [HQ.out]; exact Nat.le_refl _)] at hrl ⊢
                have hmin := ref_w (bs := bs) (L := L) HX.out HTM.out
                rw [HSN.out] at hmin
                generalize refW L k sn = rr at hrl hmin ⊢
                have HMIN := Lib.hid hmin
                have HSS : Hid (sumTo T L bs (k + 1) = sumTo T L bs k + wF T L bs k) := rfl
                clear hmin
                by_cases hov : 1000000000 < s + rr
                · have hov2 : (1000000000 : Int) < (s : Int) + (rr : Int) := by omega
                  have HF : Hid (R = 1000000001) := Lib.hid (by
                    rw [hbf.out]
                    have h1 := sum_mono T L bs (show k + 1 ≤ n by omega)
                    have h2 := HMIN.out
                    have h3 := HSS.out
                    have h4 := HS.out
                    unfold lidN at h2 ⊢
                    omega)
                  go_wp2
                  go_ret
                  exact ⟨ret_int (by rw [HF.out]; rfl), MJ.out.bel⟩
                · have hov2 : ¬ (1000000000 : Int) < (s : Int) + (rr : Int) := by omega
                  have HN : Hid (s + rr = sumTo T L bs (k + 1)) := Lib.hid (by
                    have h2 := HMIN.out
                    have h3 := HSS.out
                    have h4 := HS.out
                    unfold lidN at h2
                    omega)
                  go_wp2
                  go_roundw
                  case rel => exact ⟨k + 1, s + rr, by omega, by go_num, by go_num, by omega, HN, MK⟩
                  case measure => simp [intOf]; omega
      · obtain rfl : k = n := by omega
        have hkk : ¬ (k : Int) < (k : Int) := by omega
        have HF : Hid (R = s) := Lib.hid (by
          rw [hbf.out]
          have := HS.out
          unfold lidN
          omega)
        go_wp2
        go_ret
        exact ⟨ret_int (by rw [HF.out]), M0.out.bel⟩
  · exact absurd HLO.out hno
end Go.Proofs.YtiogcbckhaknmaaDoor.Vf
