/-
  The program's times. No conditions but that the text fits a machine.
-/
import Derived.Test.YtckjnlonijodcaaDoorTx9
import Derived.BigRegion
import Derived.Deep.DeepCutAuto
namespace Go.Proofs.YtckjnlonijodcaaDoor.Tx
open Go.RowKit Go.Proofs.YtckjnlonijodcaaDoor.W Go.Proofs.YtckjnlonijodcaaDoor.Num Go.Proofs.YtckjnlonijodcaaDoor.Cell

def SpanP (e : Ending) (D : Option Nat) : Prop := ∃ n : Nat, n ≤ 9007199254740992 ∧ e = .returned (.tuple #[.int .i64 (n : Int), .bool D.isSome]) ∧ ∀ V, D = some V → capR n V
theorem spanp_none {e : Ending} {D : Option Nat} (hD : D = none) (he : e = .returned (.tuple #[.int .i64 0, .bool false])) : SpanP e D := by
  subst hD he
  exact ⟨0, by omega, rfl, fun V h => by cases h⟩
def strLen (v : Value) : Nat := match v with | .string b => b.size | _ => 0
def PL (s : ByteArray) (D : Option Nat) (t u l : Value) : Prop := ∃ (k S T last : Nat) (tb : ByteArray), k ≤ s.size ∧ t = .string tb ∧ tb.data.toList = s.data.toList.drop k ∧ u = .int .i64 (T : Int) ∧ l = .int .i64 (last : Int) ∧ T ≤ lidN ∧ capR T S ∧ last ≤ lidN ∧ TimI s k last S D
theorem sum_lid {T S V n w q X : Nat} (hT : T ≤ lidN) (hc : capR T S) (hn : n = min V lidN) (hw : 1 ≤ w) (hw' : w ≤ 86400000) (hq : q = lidN / w) (hX : X = min (T + (if q < n then q else n) * w) lidN) : capR X (S + V * w) ∧ (if q < n then q else n) * w ≤ lidN := by
  have hqw : q * w ≤ lidN ∧ lidN < q * w + w := by
    subst hq
    have h1 := Nat.div_mul_le_self lidN w
    have h2 := Nat.lt_div_mul_add (a := lidN) (b := w) (by omega)
    omega
  have hqf : q ≤ lidN := by
    have := Nat.le_mul_of_pos_right q hw
    omega
  have hmin : (if q < n then q else n) = min V q := by split <;> omega
  rw [hmin] at hX ⊢
  unfold capR lidN at *
  rcases Nat.lt_or_ge q V with h | h
  · have hm : min V q = q := by omega
    rw [hm] at hX ⊢
    have h2 : q * w ≤ V * w := Nat.mul_le_mul_right w (by omega)
    omega
  · have hm : min V q = V := by omega
    rw [hm] at hX ⊢
    have h2 : V * w ≤ q * w := Nat.mul_le_mul_right w h
    omega
theorem tdiv_lid (w : Nat) (_h : 1 ≤ w) : Int.tdiv 1099511627776 (w : Int) = ((lidN / w : Nat) : Int) := by
  rw [show (1099511627776 : Int) = ((lidN : Nat) : Int) from rfl, Int.tdiv_eq_ediv_of_nonneg (by omega)]
  omega
theorem empty_str (tb : ByteArray) : (tb.toList == []) = decide (tb.size = 0) := by
  rw [toList_data, Bool.eq_iff_iff, beq_iff_eq, decide_eq_true_eq, ← size_data]
  exact ⟨fun h => by rw [h]; rfl, fun h => List.eq_nil_of_length_eq_zero h⟩
theorem facts17 {T n9 w0 P Z L z0 N : Nat} (hPn : P = n9 * w0) (y2 : P ≤ lidN) (hT : T ≤ lidN) (hZ : Z = min (T + P) lidN) (hL : L + z0 ≤ N) (hN : N ≤ 140737488355328) :
    ∃ Y M : Nat, wrap64 ((n9 : Int) * (w0 : Int)) = (P : Int) ∧ wrap64 ((T : Int) + (P : Int)) = (Y : Int) ∧ min (Y : Int) 1099511627776 = (Z : Int) ∧ wrap64 ((L : Int) + (z0 : Int)) = (M : Int) ∧ M ≤ N ∧ M = L + z0 := by
  subst hPn
  unfold lidN at *
  refine ⟨T + n9 * w0, L + z0, ?_, ?_, ?_, ?_, hL, rfl⟩
  · rw [← Int.natCast_mul]
    exact wrap64_in _ (by omega) (by omega)
  · rw [← Int.natCast_add]
    exact wrap64_in _ (by omega) (by omega)
  · omega
  · rw [← Int.natCast_add]
    exact wrap64_in _ (by omega) (by omega)
theorem pl_next {s : ByteArray} {D : Option Nat} {k S V Z w0 z0 E M N : Nat} {tc : ByteArray} (ht : tc.data.toList = s.data.toList.drop k) (_hN : tc.size = N) (hk : k + N = s.size) (hM : k + M = E + z0) (t6 : E + z0 ≤ s.size) (hZ : Z ≤ lidN) (hc : capR Z (S + V * w0)) (hw : w0 ≤ 86400000) (hT : TimI s (E + z0) w0 (S + V * w0) D) : PL s D (.string (tc.extract M N)) (.int .i64 (Z : Int)) (.int .i64 (w0 : Int)) :=
  ⟨E + z0, S + V * w0, Z, w0, tc.extract M N, t6, rfl, by rw [Go.Lib.extract_data, ht, List.drop_drop, hM, List.take_of_length_le (by rw [List.length_drop, size_data]; omega)], rfl, rfl, hZ, hc, by unfold lidN; omega, hT⟩
theorem len_next {tc : ByteArray} {M N : Nat} (hN : tc.size = N) (hM : 0 < M) (hMN : M ≤ N) : strLen (.string (tc.extract M N)) < strLen (.string tc) := by
  show (tc.extract M N).size < tc.size
  rw [← size_data (tc.extract M N), Go.Lib.extract_data, List.length_take, List.length_drop, size_data, hN]
  omega
set_option maxRecDepth 100000 in
set_option maxHeartbeats 12800000 in
theorem readTime_any (s : ByteArray) (w : World) (hs : s.size ≤ 140737488355328) :
    Calls Tryd.prog 16 #[.string s] w fun e w' => SpanP e (timeL s.data.toList) ∧ Below w.heap.size w w' := by
  have HS := Lib.hid hs
  by_cases h1 : tPre.isPrefixOf s.data.toList = true
  · obtain ⟨q1, q2, q3⟩ := timeL_start s (k := 2) (.inl ⟨rfl, h1⟩)
    have hc := fun W => cut_yes s tPre W h1
    obtain ⟨tb, htb⟩ : ∃ tb, strB (s.data.toList.drop tPre.length) = tb := ⟨_, rfl⟩
    have htd : tb.data.toList = s.data.toList.drop 2 := by rw [← htb, strB_data]; rfl
    rw [htb] at hc
    have hsz : tb.size = s.size - 2 := by rw [← size_data, htd, List.length_drop, size_data]
    clear htb h1
    by_cases hz : s.size = 2
    · have he : (tb.toList == []) = true := by rw [empty_str]; exact decide_eq_true (by omega)
      have hD := Lib.hid (q2 hz)
      clear q1 q2 htd
      go_enter Tryd.func16, Tryd.ntmps16
      go_wp2_with (go_at_call 34; refine (hc _).mono ?_; rintro e w1 ⟨rfl, hw1⟩; obtain rfl : w = w1 := hw1.symm; clear hw1)
      go_ret2
      exact ⟨spanp_none hD.out rfl, Below.refl _ _⟩
    · have he : (tb.toList == []) = false := by rw [empty_str]; exact decide_eq_false (by omega)
      have HI : Hid (PL s (timeL s.data.toList) (.string tb) (.int .i64 0) (.int .i64 1099511627776)) := Lib.hid ⟨2, 0, 0, lidN, tb, q3, rfl, htd, rfl, rfl, by unfold lidN; omega, ⟨fun _ => rfl, fun h => by omega, by omega⟩, Nat.le_refl _, q1 (by omega)⟩
      clear q1 q2 htd hz hsz q3
      generalize timeL s.data.toList = D at HI ⊢
      go_enter Tryd.func16, Tryd.ntmps16
      go_wp2_with (go_at_call 34; refine (hc _).mono ?_; rintro e w1 ⟨rfl, hw1⟩; obtain rfl : w = w1 := hw1.symm; clear hw1)
      go_loopw [4, 6, 7] (fun t u l wr => Hid (PL s D t u l) ∧ Hid (Below w.heap.size w wr)) (fun t _ _ _ => strLen t)
      case atStart => exact ⟨HI, Lib.hid (Below.refl _ _)⟩
      case round =>
        obtain ⟨hS, HB⟩ := hrel
        clear HI he hc
        obtain ⟨k, S, T, last, tc, hk, rfl, ht, rfl, rfl, hT, hcp, hla, hI⟩ := hS.out
        clear hS
        have htz : tc.size = s.size - k := by rw [← size_data, ht, List.length_drop, size_data]
        by_cases hlt : k < s.size
        · have he : (tc.toList == []) = false := by rw [empty_str]; exact decide_eq_false (by omega)
          obtain ⟨E, hE⟩ : ∃ E, k + (tw 10 s k).length = E := ⟨_, rfl⟩
          obtain ⟨X, hX⟩ : ∃ X, digF 10 (tw 10 s k) 0 false = X := ⟨_, rfl⟩
          obtain ⟨t1, t2, t3, t4⟩ := tim_step hI hlt hE hX
          have hEle : E ≤ s.size := by have := tw_len 10 s k hk; omega
          have htw : tw 10 tc 0 = tw 10 s k := by unfold tw; rw [List.drop_zero, ht]
          have hidx := fun W => idx_any tc W
          rw [htw] at hidx
          by_cases hEs : E = s.size
          · have hDn := Lib.hid (t2 hEs)
            have hi : ∀ W, Calls Tryd.prog 35 #[.string tc, .func (.func 36) #[] #[]] W fun e w' => e = .returned (.int .i64 (-1)) ∧ Below W.heap.size W w' := fun W => by
              have := hidx W
              rwa [if_neg (by omega)] at this
            clear t1 t2 t3 t4 hI hcp ht hE hX htw hidx
            go_wp2_with (go_at_call 35; refine (hi _).mono ?_; rintro e w1 ⟨rfl, hb1⟩)
            go_ret2
            exact ⟨spanp_none hDn.out rfl, HB.out.trans (hb1.mono HB.out.size)⟩
          · have hEl : E < s.size := by omega
            obtain ⟨L, hL⟩ : ∃ L, (tw 10 s k).length = L := ⟨_, rfl⟩
            have hkL : k + L = E := by omega
            have hi : ∀ W, Calls Tryd.prog 35 #[.string tc, .func (.func 36) #[] #[]] W fun e w' => e = .returned (.int .i64 (L : Int)) ∧ Below W.heap.size W w' := fun W => by
              have := hidx W
              rwa [if_pos (by omega), hL] at this
            have hdd : ∀ W, Calls Tryd.prog 19 #[.string (tc.extract 0 L), .int .i64 10] W fun e w' => DigR e X lidN ∧ w' = W := fun W => by
              have := digits_any (tc.extract 0 L) 10 W (by omega) (by omega) (by unfold maxLen; rw [← size_data, Go.Lib.extract_data, List.length_take]; omega)
              rw [Go.Lib.extract_data, List.drop_zero, Nat.sub_zero, ht, show (s.data.toList.drop k).take L = tw 10 s k from by
                rw [← hL]
                unfold tw
                have e := List.takeWhile_append_dropWhile (p := isD 10) (l := s.data.toList.drop k)
                conv => lhs; arg 2; rw [← e]
                rw [List.take_left], hX] at this
              exact this
            obtain ⟨⟨w0, z0⟩, hu⟩ : ∃ wz, unitF (s.data.toList.drop E) = wz := ⟨_, rfl⟩
            have huu : ∀ W, Calls Tryd.prog 37 #[.string (tc.extract L tc.size)] W fun e w' => e = .returned (.tuple #[.int .i64 (w0 : Int), .int .i64 (z0 : Int)]) ∧ w' = W := fun W => by
              have := unit_any (tc.extract L tc.size) W
              rw [Go.Lib.extract_data, ht, List.drop_drop, show k + L = E from hkL, List.take_of_length_le (by rw [List.length_drop, size_data]; omega), hu] at this
              exact this
            have hul := unit_len (s.data.toList.drop E)
            rw [hu] at hul t3
            simp only at hul t3
            have hLt : L < tc.size := by omega
            have hL0 : ¬ (L : Int) < 0 := by omega
            obtain ⟨N, hN⟩ : ∃ N, tc.size = N := ⟨_, rfl⟩
            have hNk : k + N = s.size := by omega
            rw [hN] at huu hLt
            have HNK := Lib.hid hNk
            have hNb : N ≤ 140737488355328 := by omega
            have HI1 := Lib.hid hi
            have HI2 := Lib.hid hdd
            have HI3 := Lib.hid huu
            have T1 := Lib.hid t1
            have T3 := Lib.hid (t3 hEl)
            have T4 := Lib.hid (t4 · w0 z0 · hEl hu)
            have Hc := Lib.hid hcp
            have Ht := Lib.hid ht
            clear t1 t2 t3 t4 hI hcp ht hE hX htw hidx hi hdd huu hL hu htz hNk
            cases X with
            | none =>
              have hDn := Lib.hid (T1.out rfl)
              clear T1 T3 T4 hul
              go_wp2_with first
                | (go_at_call 35; refine (HI1.out _).mono ?_; rintro e w1 ⟨rfl, hb1⟩; have HB1 := Lib.hid (HB.out.trans (hb1.mono HB.out.size)); clear HB hb1)
                | (go_at_call 19; refine (HI2.out _).mono ?_; rintro e w2 ⟨⟨n, hn, rfl, hv⟩, hw2⟩; obtain rfl : w1 = w2 := hw2.symm; clear hw2)
                | (go_at_call 37; refine (HI3.out _).mono ?_; rintro e w2 ⟨rfl, hw2⟩; obtain rfl : w1 = w2 := hw2.symm; clear hw2)
              go_ret2
              exact ⟨spanp_none hDn.out rfl, HB1.out⟩
            | some V =>
              obtain ⟨n, hn⟩ : ∃ n, n = min V lidN := ⟨_, rfl⟩
              have Hn := Lib.hid hn
              have hnb : n ≤ lidN := by omega
              clear hn T1
              by_cases g0 : w0 = 0
              · have hDn := Lib.hid (T3.out (.inl g0))
                have g1 : ((w0 : Int) == 0) = true := by simp; omega
                clear T3 T4 hul g0
                go_wp2_with first
                  | (go_at_call 35; refine (HI1.out _).mono ?_; rintro e w1 ⟨rfl, hb1⟩; have HB1 := Lib.hid (HB.out.trans (hb1.mono HB.out.size)); clear HB hb1)
                  | (go_at_call 19; refine (HI2.out _).mono ?_; rintro e w2 ⟨⟨n', hn', rfl, hv⟩, hw2⟩; obtain rfl : w1 = w2 := hw2.symm; clear hw2)
                  | (go_at_call 37; refine (HI3.out _).mono ?_; rintro e w2 ⟨rfl, hw2⟩; obtain rfl : w1 = w2 := hw2.symm; clear hw2)
                go_ret2
                exact ⟨spanp_none hDn.out rfl, HB1.out⟩
              · have g1 : ((w0 : Int) == 0) = false := by simp; omega
                by_cases g2 : last ≤ w0
                · have hDn := Lib.hid (T3.out (.inr g2))
                  have g3 : (last : Int) ≤ (w0 : Int) := by omega
                  clear T3 T4 hul g0 g2
                  go_wp2_with first
                    | (go_at_call 35; refine (HI1.out _).mono ?_; rintro e w1 ⟨rfl, hb1⟩; have HB1 := Lib.hid (HB.out.trans (hb1.mono HB.out.size)); clear HB hb1)
                    | (go_at_call 19; refine (HI2.out _).mono ?_; rintro e w2 ⟨⟨n', hn', rfl, hv⟩, hw2⟩; obtain rfl : w1 = w2 := hw2.symm; clear hw2)
                    | (go_at_call 37; refine (HI3.out _).mono ?_; rintro e w2 ⟨rfl, hw2⟩; obtain rfl : w1 = w2 := hw2.symm; clear hw2)
                  go_ret2
                  exact ⟨spanp_none hDn.out rfl, HB1.out⟩
                · have g3 : ¬ (last : Int) ≤ (w0 : Int) := by omega
                  obtain ⟨t5, t6, t7⟩ := T4.out V rfl g0 (by omega)
                  have HT := Lib.hid t5
                  have hw8 := hul.2.2
                  obtain ⟨q, hq⟩ : ∃ q, q = lidN / w0 := ⟨_, rfl⟩
                  obtain ⟨P, hP⟩ : ∃ P, P = (if q < n then q else n) * w0 := ⟨_, rfl⟩
                  obtain ⟨Z, hZ⟩ : ∃ Z, Z = min (T + P) lidN := ⟨_, rfl⟩
                  have hZ' : Z = min (T + (if q < n then q else n) * w0) lidN := by rw [hZ, hP]
                  obtain ⟨y1, y2⟩ := sum_lid hT Hc.out Hn.out (by omega) hw8 hq hZ'
                  rw [← hP] at y2
                  have Y1 : Hid (capR Z (S + V * w0)) := Lib.hid y1
                  have hq1 : Int.tdiv 1099511627776 (w0 : Int) = (q : Int) := by rw [hq]; exact tdiv_lid w0 (by omega)
                  have HPE := Lib.hid hP
                  have HZE : Hid (P ≤ lidN ∧ Z = min (T + P) lidN) := Lib.hid ⟨y2, hZ⟩
                  have HK : Hid (L + z0 ≤ N ∧ k + L = E ∧ E + z0 ≤ s.size ∧ 1 ≤ z0 ∧ Z ≤ lidN) := Lib.hid ⟨by have := HNK.out; omega, hkL, t6, t7, by omega⟩
                  have hqb' : q ≤ lidN := by rw [hq]; exact Nat.div_le_self _ _
                  have hqb : q ≤ 1099511627776 := hqb'
                  clear hqb'
                  clear T3 T4 hul g2 t5 y1 hq hP hZ hZ' y2 hkL t6 t7
                  by_cases h5 : (q : Int) < (n : Int)
                  · go_upto_region 17 with first
                      | (go_at_call 35; refine (HI1.out _).mono ?_; rintro e w1 ⟨rfl, hb1⟩; have HB1 := Lib.hid (HB.out.trans (hb1.mono HB.out.size)); clear HB hb1)
                      | (go_at_call 19; refine (HI2.out _).mono ?_; rintro e w2 ⟨⟨n', hn', rfl, hv⟩, hw2⟩; obtain rfl : n = n' := Hn.out.trans (hv V rfl).symm; clear hn' hv; obtain rfl : w1 = w2 := hw2.symm; clear hw2)
                      | (go_at_call 37; refine (HI3.out _).mono ?_; rintro e w2 ⟨rfl, hw2⟩; obtain rfl : w1 = w2 := hw2.symm; clear hw2)
                    obtain ⟨Y, M, hp1, hp2, hp3, hp4, hMN, hM⟩ := facts17 (HPE.out.trans (by rw [if_pos (by omega)])) HZE.out.1 hT HZE.out.2 HK.out.1 hNb
                    have hq1' : IntKind.i64.wrap ((q : Int) * (w0 : Int)) = (P : Int) := (IntWalk.i64_left _).trans hp1
                    have hq2' : IntKind.i64.wrap ((T : Int) + (P : Int)) = (Y : Int) := (IntWalk.i64_left _).trans hp2
                    have hq4' : IntKind.i64.wrap ((L : Int) + (z0 : Int)) = (M : Int) := (IntWalk.i64_left _).trans hp4
                    have HF := Lib.hid (pl_next (N := N) (M := M) Ht.out hN HNK.out (by have := HK.out.2.1; omega) HK.out.2.2.1 HK.out.2.2.2.2 Y1.out hw8 HT.out)
                    have HME := Lib.hid (len_next hN (by have := HK.out.2.2.2.1; omega) hMN)
                    clear hM Y1 HT Ht HPE HZE HK
                    go_region
                    go_wp2
                    go_roundw
                    case rel => exact ⟨HF, Lib.hid ⟨HB1.out.os, HB1.out.tape, HB1.out.output, HB1.out.size, HB1.out.block⟩⟩
                    case measure => exact HME.out
                  · go_upto_region 17 with first
                      | (go_at_call 35; refine (HI1.out _).mono ?_; rintro e w1 ⟨rfl, hb1⟩; have HB1 := Lib.hid (HB.out.trans (hb1.mono HB.out.size)); clear HB hb1)
                      | (go_at_call 19; refine (HI2.out _).mono ?_; rintro e w2 ⟨⟨n', hn', rfl, hv⟩, hw2⟩; obtain rfl : n = n' := Hn.out.trans (hv V rfl).symm; clear hn' hv; obtain rfl : w1 = w2 := hw2.symm; clear hw2)
                      | (go_at_call 37; refine (HI3.out _).mono ?_; rintro e w2 ⟨rfl, hw2⟩; obtain rfl : w1 = w2 := hw2.symm; clear hw2)
                    obtain ⟨Y, M, hp1, hp2, hp3, hp4, hMN, hM⟩ := facts17 (HPE.out.trans (by rw [if_neg (by omega)])) HZE.out.1 hT HZE.out.2 HK.out.1 hNb
                    have hq1' : IntKind.i64.wrap ((n : Int) * (w0 : Int)) = (P : Int) := (IntWalk.i64_left _).trans hp1
                    have hq2' : IntKind.i64.wrap ((T : Int) + (P : Int)) = (Y : Int) := (IntWalk.i64_left _).trans hp2
                    have hq4' : IntKind.i64.wrap ((L : Int) + (z0 : Int)) = (M : Int) := (IntWalk.i64_left _).trans hp4
                    have HF := Lib.hid (pl_next (N := N) (M := M) Ht.out hN HNK.out (by have := HK.out.2.1; omega) HK.out.2.2.1 HK.out.2.2.2.2 Y1.out hw8 HT.out)
                    have HME := Lib.hid (len_next hN (by have := HK.out.2.2.2.1; omega) hMN)
                    clear hM Y1 HT Ht HPE HZE HK
                    go_region
                    go_wp2
                    go_roundw
                    case rel => exact ⟨HF, Lib.hid ⟨HB1.out.os, HB1.out.tape, HB1.out.output, HB1.out.size, HB1.out.block⟩⟩
                    case measure => exact HME.out
        · have he : (tc.toList == []) = true := by rw [empty_str]; exact decide_eq_true (by omega)
          have hD : Hid (D = some S) := Lib.hid (tim_end hI (by omega))
          have Hc := Lib.hid hcp
          clear hI hcp ht
          go_wp2
          go_ret2
          refine ⟨⟨T, by unfold lidN at hT; omega, ?_, fun V hV => ?_⟩, HB.out⟩
          · rw [hD.out]; rfl
          · rw [hD.out] at hV
            injection hV with hV
            rw [← hV]
            exact Hc.out
  · have h1f := Bool.eq_false_iff.2 h1
    have hc0 := fun W => cut_no s tPre W h1f
    by_cases h2 : timePre.isPrefixOf s.data.toList = true
    · obtain ⟨q1, q2, q3⟩ := timeL_start s (k := 5) (.inr ⟨rfl, h2⟩)
      have hc := fun W => cut_yes s timePre W h2
      obtain ⟨tb, htb⟩ : ∃ tb, strB (s.data.toList.drop timePre.length) = tb := ⟨_, rfl⟩
      have htd : tb.data.toList = s.data.toList.drop 5 := by rw [← htb, strB_data]; rfl
      rw [htb] at hc
      have hsz : tb.size = s.size - 5 := by rw [← size_data, htd, List.length_drop, size_data]
      clear htb h1 h2 h1f
      by_cases hz : s.size = 5
      · have he : (tb.toList == []) = true := by rw [empty_str]; exact decide_eq_true (by omega)
        have hD := Lib.hid (q2 hz)
        clear q1 q2 htd
        go_enter Tryd.func16, Tryd.ntmps16
        go_wp2_with first
          | (go_at_call 34; refine (hc0 _).mono ?_; rintro e w1 ⟨rfl, hw1⟩; obtain rfl : w = w1 := hw1.symm; clear hw1 hc0)
          | (go_at_call 34; refine (hc _).mono ?_; rintro e w1 ⟨rfl, hw1⟩; obtain rfl : w = w1 := hw1.symm; clear hw1)
        go_ret2
        exact ⟨spanp_none hD.out rfl, Below.refl _ _⟩
      · have he : (tb.toList == []) = false := by rw [empty_str]; exact decide_eq_false (by omega)
        have HI : Hid (PL s (timeL s.data.toList) (.string tb) (.int .i64 0) (.int .i64 1099511627776)) := Lib.hid ⟨5, 0, 0, lidN, tb, q3, rfl, htd, rfl, rfl, by unfold lidN; omega, ⟨fun _ => rfl, fun h => by omega, by omega⟩, Nat.le_refl _, q1 (by omega)⟩
        clear q1 q2 htd hz hsz q3
        generalize timeL s.data.toList = D at HI ⊢
        go_enter Tryd.func16, Tryd.ntmps16
        go_wp2_with first
          | (go_at_call 34; refine (hc0 _).mono ?_; rintro e w1 ⟨rfl, hw1⟩; obtain rfl : w = w1 := hw1.symm; clear hw1 hc0)
          | (go_at_call 34; refine (hc _).mono ?_; rintro e w1 ⟨rfl, hw1⟩; obtain rfl : w = w1 := hw1.symm; clear hw1)
        go_loopw [4, 6, 7] (fun t u l wr => Hid (PL s D t u l) ∧ Hid (Below w.heap.size w wr)) (fun t _ _ _ => strLen t)
        case atStart => exact ⟨HI, Lib.hid (Below.refl _ _)⟩
        case round =>
          obtain ⟨hS, HB⟩ := hrel
          clear HI he hc
          obtain ⟨k, S, T, last, tc, hk, rfl, ht, rfl, rfl, hT, hcp, hla, hI⟩ := hS.out
          clear hS
          have htz : tc.size = s.size - k := by rw [← size_data, ht, List.length_drop, size_data]
          by_cases hlt : k < s.size
          · have he : (tc.toList == []) = false := by rw [empty_str]; exact decide_eq_false (by omega)
            obtain ⟨E, hE⟩ : ∃ E, k + (tw 10 s k).length = E := ⟨_, rfl⟩
            obtain ⟨X, hX⟩ : ∃ X, digF 10 (tw 10 s k) 0 false = X := ⟨_, rfl⟩
            obtain ⟨t1, t2, t3, t4⟩ := tim_step hI hlt hE hX
            have hEle : E ≤ s.size := by have := tw_len 10 s k hk; omega
            have htw : tw 10 tc 0 = tw 10 s k := by unfold tw; rw [List.drop_zero, ht]
            have hidx := fun W => idx_any tc W
            rw [htw] at hidx
            by_cases hEs : E = s.size
            · have hDn := Lib.hid (t2 hEs)
              have hi : ∀ W, Calls Tryd.prog 35 #[.string tc, .func (.func 36) #[] #[]] W fun e w' => e = .returned (.int .i64 (-1)) ∧ Below W.heap.size W w' := fun W => by
                have := hidx W
                rwa [if_neg (by omega)] at this
              clear t1 t2 t3 t4 hI hcp ht hE hX htw hidx
              go_wp2_with (go_at_call 35; refine (hi _).mono ?_; rintro e w1 ⟨rfl, hb1⟩)
              go_ret2
              exact ⟨spanp_none hDn.out rfl, HB.out.trans (hb1.mono HB.out.size)⟩
            · have hEl : E < s.size := by omega
              obtain ⟨L, hL⟩ : ∃ L, (tw 10 s k).length = L := ⟨_, rfl⟩
              have hkL : k + L = E := by omega
              have hi : ∀ W, Calls Tryd.prog 35 #[.string tc, .func (.func 36) #[] #[]] W fun e w' => e = .returned (.int .i64 (L : Int)) ∧ Below W.heap.size W w' := fun W => by
                have := hidx W
                rwa [if_pos (by omega), hL] at this
              have hdd : ∀ W, Calls Tryd.prog 19 #[.string (tc.extract 0 L), .int .i64 10] W fun e w' => DigR e X lidN ∧ w' = W := fun W => by
                have := digits_any (tc.extract 0 L) 10 W (by omega) (by omega) (by unfold maxLen; rw [← size_data, Go.Lib.extract_data, List.length_take]; omega)
                rw [Go.Lib.extract_data, List.drop_zero, Nat.sub_zero, ht, show (s.data.toList.drop k).take L = tw 10 s k from by
                  rw [← hL]
                  unfold tw
                  have e := List.takeWhile_append_dropWhile (p := isD 10) (l := s.data.toList.drop k)
                  conv => lhs; arg 2; rw [← e]
                  rw [List.take_left], hX] at this
                exact this
              obtain ⟨⟨w0, z0⟩, hu⟩ : ∃ wz, unitF (s.data.toList.drop E) = wz := ⟨_, rfl⟩
              have huu : ∀ W, Calls Tryd.prog 37 #[.string (tc.extract L tc.size)] W fun e w' => e = .returned (.tuple #[.int .i64 (w0 : Int), .int .i64 (z0 : Int)]) ∧ w' = W := fun W => by
                have := unit_any (tc.extract L tc.size) W
                rw [Go.Lib.extract_data, ht, List.drop_drop, show k + L = E from hkL, List.take_of_length_le (by rw [List.length_drop, size_data]; omega), hu] at this
                exact this
              have hul := unit_len (s.data.toList.drop E)
              rw [hu] at hul t3
              simp only at hul t3
              have hLt : L < tc.size := by omega
              have hL0 : ¬ (L : Int) < 0 := by omega
              obtain ⟨N, hN⟩ : ∃ N, tc.size = N := ⟨_, rfl⟩
              have hNk : k + N = s.size := by omega
              rw [hN] at huu hLt
              have HNK := Lib.hid hNk
              have hNb : N ≤ 140737488355328 := by omega
              have HI1 := Lib.hid hi
              have HI2 := Lib.hid hdd
              have HI3 := Lib.hid huu
              have T1 := Lib.hid t1
              have T3 := Lib.hid (t3 hEl)
              have T4 := Lib.hid (t4 · w0 z0 · hEl hu)
              have Hc := Lib.hid hcp
              have Ht := Lib.hid ht
              clear t1 t2 t3 t4 hI hcp ht hE hX htw hidx hi hdd huu hL hu htz hNk
              cases X with
              | none =>
                have hDn := Lib.hid (T1.out rfl)
                clear T1 T3 T4 hul
                go_wp2_with first
                  | (go_at_call 35; refine (HI1.out _).mono ?_; rintro e w1 ⟨rfl, hb1⟩; have HB1 := Lib.hid (HB.out.trans (hb1.mono HB.out.size)); clear HB hb1)
                  | (go_at_call 19; refine (HI2.out _).mono ?_; rintro e w2 ⟨⟨n, hn, rfl, hv⟩, hw2⟩; obtain rfl : w1 = w2 := hw2.symm; clear hw2)
                  | (go_at_call 37; refine (HI3.out _).mono ?_; rintro e w2 ⟨rfl, hw2⟩; obtain rfl : w1 = w2 := hw2.symm; clear hw2)
                go_ret2
                exact ⟨spanp_none hDn.out rfl, HB1.out⟩
              | some V =>
                obtain ⟨n, hn⟩ : ∃ n, n = min V lidN := ⟨_, rfl⟩
                have Hn := Lib.hid hn
                have hnb : n ≤ lidN := by omega
                clear hn T1
                by_cases g0 : w0 = 0
                · have hDn := Lib.hid (T3.out (.inl g0))
                  have g1 : ((w0 : Int) == 0) = true := by simp; omega
                  clear T3 T4 hul g0
                  go_wp2_with first
                    | (go_at_call 35; refine (HI1.out _).mono ?_; rintro e w1 ⟨rfl, hb1⟩; have HB1 := Lib.hid (HB.out.trans (hb1.mono HB.out.size)); clear HB hb1)
                    | (go_at_call 19; refine (HI2.out _).mono ?_; rintro e w2 ⟨⟨n', hn', rfl, hv⟩, hw2⟩; obtain rfl : w1 = w2 := hw2.symm; clear hw2)
                    | (go_at_call 37; refine (HI3.out _).mono ?_; rintro e w2 ⟨rfl, hw2⟩; obtain rfl : w1 = w2 := hw2.symm; clear hw2)
                  go_ret2
                  exact ⟨spanp_none hDn.out rfl, HB1.out⟩
                · have g1 : ((w0 : Int) == 0) = false := by simp; omega
                  by_cases g2 : last ≤ w0
                  · have hDn := Lib.hid (T3.out (.inr g2))
                    have g3 : (last : Int) ≤ (w0 : Int) := by omega
                    clear T3 T4 hul g0 g2
                    go_wp2_with first
                      | (go_at_call 35; refine (HI1.out _).mono ?_; rintro e w1 ⟨rfl, hb1⟩; have HB1 := Lib.hid (HB.out.trans (hb1.mono HB.out.size)); clear HB hb1)
                      | (go_at_call 19; refine (HI2.out _).mono ?_; rintro e w2 ⟨⟨n', hn', rfl, hv⟩, hw2⟩; obtain rfl : w1 = w2 := hw2.symm; clear hw2)
                      | (go_at_call 37; refine (HI3.out _).mono ?_; rintro e w2 ⟨rfl, hw2⟩; obtain rfl : w1 = w2 := hw2.symm; clear hw2)
                    go_ret2
                    exact ⟨spanp_none hDn.out rfl, HB1.out⟩
                  · have g3 : ¬ (last : Int) ≤ (w0 : Int) := by omega
                    obtain ⟨t5, t6, t7⟩ := T4.out V rfl g0 (by omega)
                    have HT := Lib.hid t5
                    have hw8 := hul.2.2
                    obtain ⟨q, hq⟩ : ∃ q, q = lidN / w0 := ⟨_, rfl⟩
                    obtain ⟨P, hP⟩ : ∃ P, P = (if q < n then q else n) * w0 := ⟨_, rfl⟩
                    obtain ⟨Z, hZ⟩ : ∃ Z, Z = min (T + P) lidN := ⟨_, rfl⟩
                    have hZ' : Z = min (T + (if q < n then q else n) * w0) lidN := by rw [hZ, hP]
                    obtain ⟨y1, y2⟩ := sum_lid hT Hc.out Hn.out (by omega) hw8 hq hZ'
                    rw [← hP] at y2
                    have Y1 : Hid (capR Z (S + V * w0)) := Lib.hid y1
                    have hq1 : Int.tdiv 1099511627776 (w0 : Int) = (q : Int) := by rw [hq]; exact tdiv_lid w0 (by omega)
                    have HPE := Lib.hid hP
                    have HZE : Hid (P ≤ lidN ∧ Z = min (T + P) lidN) := Lib.hid ⟨y2, hZ⟩
                    have HK : Hid (L + z0 ≤ N ∧ k + L = E ∧ E + z0 ≤ s.size ∧ 1 ≤ z0 ∧ Z ≤ lidN) := Lib.hid ⟨by have := HNK.out; omega, hkL, t6, t7, by omega⟩
                    have hqb' : q ≤ lidN := by rw [hq]; exact Nat.div_le_self _ _
                    have hqb : q ≤ 1099511627776 := hqb'
                    clear hqb'
                    clear T3 T4 hul g2 t5 y1 hq hP hZ hZ' y2 hkL t6 t7
                    by_cases h5 : (q : Int) < (n : Int)
                    · go_upto_region 17 with first
                        | (go_at_call 35; refine (HI1.out _).mono ?_; rintro e w1 ⟨rfl, hb1⟩; have HB1 := Lib.hid (HB.out.trans (hb1.mono HB.out.size)); clear HB hb1)
                        | (go_at_call 19; refine (HI2.out _).mono ?_; rintro e w2 ⟨⟨n', hn', rfl, hv⟩, hw2⟩; obtain rfl : n = n' := Hn.out.trans (hv V rfl).symm; clear hn' hv; obtain rfl : w1 = w2 := hw2.symm; clear hw2)
                        | (go_at_call 37; refine (HI3.out _).mono ?_; rintro e w2 ⟨rfl, hw2⟩; obtain rfl : w1 = w2 := hw2.symm; clear hw2)
                      obtain ⟨Y, M, hp1, hp2, hp3, hp4, hMN, hM⟩ := facts17 (HPE.out.trans (by rw [if_pos (by omega)])) HZE.out.1 hT HZE.out.2 HK.out.1 hNb
                      have hq1' : IntKind.i64.wrap ((q : Int) * (w0 : Int)) = (P : Int) := (IntWalk.i64_left _).trans hp1
                      have hq2' : IntKind.i64.wrap ((T : Int) + (P : Int)) = (Y : Int) := (IntWalk.i64_left _).trans hp2
                      have hq4' : IntKind.i64.wrap ((L : Int) + (z0 : Int)) = (M : Int) := (IntWalk.i64_left _).trans hp4
                      have HF := Lib.hid (pl_next (N := N) (M := M) Ht.out hN HNK.out (by have := HK.out.2.1; omega) HK.out.2.2.1 HK.out.2.2.2.2 Y1.out hw8 HT.out)
                      have HME := Lib.hid (len_next hN (by have := HK.out.2.2.2.1; omega) hMN)
                      clear hM Y1 HT Ht HPE HZE HK
                      go_region
                      go_wp2
                      go_roundw
                      case rel => exact ⟨HF, Lib.hid ⟨HB1.out.os, HB1.out.tape, HB1.out.output, HB1.out.size, HB1.out.block⟩⟩
                      case measure => exact HME.out
                    · go_upto_region 17 with first
                        | (go_at_call 35; refine (HI1.out _).mono ?_; rintro e w1 ⟨rfl, hb1⟩; have HB1 := Lib.hid (HB.out.trans (hb1.mono HB.out.size)); clear HB hb1)
                        | (go_at_call 19; refine (HI2.out _).mono ?_; rintro e w2 ⟨⟨n', hn', rfl, hv⟩, hw2⟩; obtain rfl : n = n' := Hn.out.trans (hv V rfl).symm; clear hn' hv; obtain rfl : w1 = w2 := hw2.symm; clear hw2)
                        | (go_at_call 37; refine (HI3.out _).mono ?_; rintro e w2 ⟨rfl, hw2⟩; obtain rfl : w1 = w2 := hw2.symm; clear hw2)
                      obtain ⟨Y, M, hp1, hp2, hp3, hp4, hMN, hM⟩ := facts17 (HPE.out.trans (by rw [if_neg (by omega)])) HZE.out.1 hT HZE.out.2 HK.out.1 hNb
                      have hq1' : IntKind.i64.wrap ((n : Int) * (w0 : Int)) = (P : Int) := (IntWalk.i64_left _).trans hp1
                      have hq2' : IntKind.i64.wrap ((T : Int) + (P : Int)) = (Y : Int) := (IntWalk.i64_left _).trans hp2
                      have hq4' : IntKind.i64.wrap ((L : Int) + (z0 : Int)) = (M : Int) := (IntWalk.i64_left _).trans hp4
                      have HF := Lib.hid (pl_next (N := N) (M := M) Ht.out hN HNK.out (by have := HK.out.2.1; omega) HK.out.2.2.1 HK.out.2.2.2.2 Y1.out hw8 HT.out)
                      have HME := Lib.hid (len_next hN (by have := HK.out.2.2.2.1; omega) hMN)
                      clear hM Y1 HT Ht HPE HZE HK
                      go_region
                      go_wp2
                      go_roundw
                      case rel => exact ⟨HF, Lib.hid ⟨HB1.out.os, HB1.out.tape, HB1.out.output, HB1.out.size, HB1.out.block⟩⟩
                      case measure => exact HME.out
          · have he : (tc.toList == []) = true := by rw [empty_str]; exact decide_eq_true (by omega)
            have hD : Hid (D = some S) := Lib.hid (tim_end hI (by omega))
            have Hc := Lib.hid hcp
            clear hI hcp ht
            go_wp2
            go_ret2
            refine ⟨⟨T, by unfold lidN at hT; omega, ?_, fun V hV => ?_⟩, HB.out⟩
            · rw [hD.out]; rfl
            · rw [hD.out] at hV
              injection hV with hV
              rw [← hV]
              exact Hc.out
    · have hN : Hid (timeL s.data.toList = none) := Lib.hid (by unfold timeL; rw [if_neg h1, if_neg h2])
      have hc := fun W => cut_no s timePre W (Bool.eq_false_iff.2 h2)
      clear h1 h2 h1f
      go_enter Tryd.func16, Tryd.ntmps16
      go_wp2_with first
        | (go_at_call 34; refine (hc0 _).mono ?_; rintro e w1 ⟨rfl, hw1⟩; obtain rfl : w = w1 := hw1.symm; clear hw1 hc0)
        | (go_at_call 34; refine (hc _).mono ?_; rintro e w1 ⟨rfl, hw1⟩; obtain rfl : w = w1 := hw1.symm; clear hw1)
      go_ret2
      exact ⟨spanp_none hN.out rfl, Below.refl _ _⟩
end Go.Proofs.YtckjnlonijodcaaDoor.Tx
