/-
  The keep-statements' guard, from raw numbers: a guard with rows of its own. Conditions: the rows read, within the reach.
-/
import Derived.Test.YtdofkakbfolpkaaSh2
import Derived.Test.YtdofkakbfolpkaaApl
namespace Go.Proofs.Ytdofkakbfolpkaa.Sf
open Go.RowKit Go.Proofs.Ytdofkakbfolpkaa.W Go.Proofs.Ytdofkakbfolpkaa.Ints Go.Proofs.Ytdofkakbfolpkaa.Pop Go.Proofs.Ytdofkakbfolpkaa.Keep

/-- a guard with rows of its own -/
def GOwn (w w' : World) (e : Ending) (d : Int) (ps : List (Int × List Int)) : Prop :=
  ∃ B c' us base gx, e = .returned (guardV 6 d B us.length c') ∧ us.map VD.pl = ps ∧ w.heap.size ≤ base ∧ w'.ownsRow base 50 2 (.slice B us.length c') us.length (votesV us) ∧ FrO base gx B us w' ∧ us.Pairwise VD.apart ∧ Below w.heap.size w w'

theorem ints_snoc (xs : List Int) (x : Int) : ints (xs ++ [x]) = ints xs ++ [.int .i64 x] := by simp

set_option maxRecDepth 100000 in
set_option maxHeartbeats 6400000 in
theorem guard_any (Z : Option Addr) (n c : Nat) (delay : Int) (bs : List VD) (w : World) (hr : GRd w Z n bs) (hn : n ≤ maxLen) (hx : ∀ b ∈ bs, (-9223372036854775808 ≤ b.need ∧ b.need ≤ 9223372036854775807) ∧ ∀ x ∈ b.of, -9223372036854775808 ≤ x ∧ x ≤ 9223372036854775807) (hd1 : -9223372036854775808 ≤ delay) (hd2 : delay ≤ 9223372036854775807) :
    Calls Try.prog 18 #[.slice Z n c, .int .i64 delay] w fun e w' => GOwn w w' e (pickN delay 4) (guardP (bs.map VD.pl)) := by
  unfold maxLen at hn
  obtain ⟨i0, hi0, hz0, hz1, hz2⟩ := info_parts int_info
  obtain ⟨j0, hj0, hy0, hy1, hy2⟩ := info_parts vote_info
  have HR := Lib.hid hr
  have HL : Hid ((bs.map VD.pl).length = n) := by rw [Hid, List.length_map]; exact hr.len
  have HX := Lib.hid hx
  have HP : Hid (guardP (bs.map VD.pl) = guardTo (bs.map VD.pl) (min 8 n)) := by rw [Hid, guardP, List.length_map, hr.len]
  have HPK0 : Hid (∀ W, Calls Try.prog 21 #[.int .i64 delay, .int .i64 4] W fun e w' => e = .returned (.int .i64 (pickN delay 4)) ∧ w' = W) := fun W => picked_any delay 4 W hd1 hd2 (by omega) (by omega)
  generalize guardP (bs.map VD.pl) = GP at *
  generalize pickN delay 4 = d at *
  clear hr hx
  go_enter Try.func18, Try.ntmps18
  go_wp2_with fail
  refine (HPK0.out _).mono ?_
  rintro e w1 ⟨rfl, rfl⟩
  go_wp2
  have HO : Hid (((((w.alloc (.cells #[.int .i64 0, .int .i64 0, .slice none 0 0] 24)).alloc (.cells #[.int .i64 0, .int .i64 1, .int .i64 2] 3)).alloc (.cells #[.int .i64 2, .slice (some ⟨w.heap.size + 1, 0, none⟩) 3 3] 50)).alloc
      (.cells #[.int .i64 6, .int .i64 d, .slice (some ⟨w.heap.size + 1 + 1, 0, none⟩) 1 1] 24)).ownsRow (w.heap.size + 1) 50 2 (.slice (some ⟨w.heap.size + 1 + 1, 0, none⟩) 1 1) 1 (votesV [⟨2, some ⟨w.heap.size + 1, 0, none⟩, 3, 3, [0, 1, 2]⟩])) := by
    have h := World.ownsRow_lit (base := w.heap.size + 1) (e := 50) (size := 2) ((w.alloc (.cells #[.int .i64 0, .int .i64 0, .slice none 0 0] 24)).alloc (.cells #[.int .i64 0, .int .i64 1, .int .i64 2] 3)) #[.int .i64 2, .slice (some ⟨w.heap.size + 1, 0, none⟩) 3 3] 1 (by simp) (by unfold maxLen; omega) rfl
    have h2 := own_below h (below_alloc (.cells #[.int .i64 6, .int .i64 d, .slice (some ⟨w.heap.size + 1 + 1, 0, none⟩) 1 1] 24))
    simp only [World.size_alloc] at h2
    exact h2
  have HF : Hid (FrO (w.heap.size + 1) (w.heap.size + 1 + 1 + 1) (some ⟨w.heap.size + 1 + 1, 0, none⟩) [⟨2, some ⟨w.heap.size + 1, 0, none⟩, 3, 3, [0, 1, 2]⟩] ((((w.alloc (.cells #[.int .i64 0, .int .i64 0, .slice none 0 0] 24)).alloc (.cells #[.int .i64 0, .int .i64 1, .int .i64 2] 3)).alloc (.cells #[.int .i64 2, .slice (some ⟨w.heap.size + 1, 0, none⟩) 3 3] 50)).alloc
      (.cells #[.int .i64 6, .int .i64 d, .slice (some ⟨w.heap.size + 1 + 1, 0, none⟩) 1 1] 24))) := by
    intro u hu
    simp only [List.mem_singleton] at hu
    subst hu
    have h := World.ownsRow_lit (base := w.heap.size + 1) (e := 3) (size := 1) (w.alloc (.cells #[.int .i64 0, .int .i64 0, .slice none 0 0] 24)) #[.int .i64 0, .int .i64 1, .int .i64 2] 3 (by simp) (by unfold maxLen; omega) rfl
    have h2 := own_below (own_below h (below_alloc (.cells #[.int .i64 2, .slice (some ⟨w.heap.size + 1, 0, none⟩) 3 3] 50))) (below_alloc (.cells #[.int .i64 6, .int .i64 d, .slice (some ⟨w.heap.size + 1 + 1, 0, none⟩) 1 1] 24))
    simp only [World.size_alloc] at h2
    refine ⟨h2, by simp only; omega, fun a ha => ?_⟩
    injection ha with ha
    subst ha
    refine ⟨Nat.le_refl _, by simp, by simp, fun b hb => ?_⟩
    injection hb with hb
    subst hb
    simp
  have KR : Hid (Blk ((((w.alloc (.cells #[.int .i64 0, .int .i64 0, .slice none 0 0] 24)).alloc (.cells #[.int .i64 0, .int .i64 1, .int .i64 2] 3)).alloc (.cells #[.int .i64 2, .slice (some ⟨w.heap.size + 1, 0, none⟩) 3 3] 50)).alloc
      (.cells #[.int .i64 6, .int .i64 d, .slice (some ⟨w.heap.size + 1 + 1, 0, none⟩) 1 1] 24)) w.heap.size 24 #[.int .i64 0, .int .i64 0, .slice none 0 0]) := (((Blk.new w _ _).alloc _).alloc _).alloc _
  have KG : Hid (Blk ((((w.alloc (.cells #[.int .i64 0, .int .i64 0, .slice none 0 0] 24)).alloc (.cells #[.int .i64 0, .int .i64 1, .int .i64 2] 3)).alloc (.cells #[.int .i64 2, .slice (some ⟨w.heap.size + 1, 0, none⟩) 3 3] 50)).alloc
      (.cells #[.int .i64 6, .int .i64 d, .slice (some ⟨w.heap.size + 1 + 1, 0, none⟩) 1 1] 24)) (w.heap.size + 1 + 1 + 1) 24 #[.int .i64 6, .int .i64 d, .slice (some ⟨w.heap.size + 1 + 1, 0, none⟩) 1 1]) := by
    have h := Blk.new (((w.alloc (.cells #[.int .i64 0, .int .i64 0, .slice none 0 0] 24)).alloc (.cells #[.int .i64 0, .int .i64 1, .int .i64 2] 3)).alloc (.cells #[.int .i64 2, .slice (some ⟨w.heap.size + 1, 0, none⟩) 3 3] 50)) 24 #[.int .i64 6, .int .i64 d, .slice (some ⟨w.heap.size + 1 + 1, 0, none⟩) 1 1]
    rw [Hid]
    simpa only [World.size_alloc] using h
  have HB : Hid (Below w.heap.size w ((((w.alloc (.cells #[.int .i64 0, .int .i64 0, .slice none 0 0] 24)).alloc (.cells #[.int .i64 0, .int .i64 1, .int .i64 2] 3)).alloc (.cells #[.int .i64 2, .slice (some ⟨w.heap.size + 1, 0, none⟩) 3 3] 50)).alloc
      (.cells #[.int .i64 6, .int .i64 d, .slice (some ⟨w.heap.size + 1 + 1, 0, none⟩) 1 1] 24))) := (below3 w _ _ _).alloc (by simp; omega) _
  have hW : ((((w.alloc (.cells #[.int .i64 0, .int .i64 0, .slice none 0 0] 24)).alloc (.cells #[.int .i64 0, .int .i64 1, .int .i64 2] 3)).alloc (.cells #[.int .i64 2, .slice (some ⟨w.heap.size + 1, 0, none⟩) 3 3] 50)).alloc
      (.cells #[.int .i64 6, .int .i64 d, .slice (some ⟨w.heap.size + 1 + 1, 0, none⟩) 1 1] 24)).heap.size = w.heap.size + 1 + 1 + 1 + 1 := by simp
  generalize World.alloc (World.alloc _ _) (.cells #[.int .i64 6, .int .i64 d, .slice (some ⟨w.heap.size + 1 + 1, 0, none⟩) 1 1] 24) = W at *
  go_loopw [6, 7, 8, 9, 10] (fun i _ _ _ _ wr => ∃ k : Nat, k ≤ 8 ∧ k ≤ n ∧ i = .int .i64 k ∧ ∃ B c' us, us.map VD.pl = guardTo (bs.map VD.pl) k ∧ Hid (Blk wr (w.heap.size + 1 + 1 + 1) 24 #[.int .i64 6, .int .i64 d, .slice B us.length c']) ∧ Hid (wr.ownsRow (w.heap.size + 1) 50 2 (.slice B us.length c') us.length (votesV us)) ∧
      Hid (FrO (w.heap.size + 1) (w.heap.size + 1 + 1 + 1) B us wr) ∧ Hid (∀ b, B = some b → b.block ≠ w.heap.size + 1 + 1 + 1) ∧ Hid (us.Pairwise VD.apart) ∧ Hid (Blk wr w.heap.size 24 #[.int .i64 0, .int .i64 0, .slice none 0 0]) ∧ Hid (Below w.heap.size w wr) ∧ w.heap.size + 1 + 1 + 1 < wr.heap.size) (fun i _ _ _ _ _ => 8 - (intOf i).toNat)
  case atStart => exact ⟨0, by omega, Nat.zero_le _, rfl, _, 1, [_], rfl, KG, HO, HF, (by intro b hb; injection hb with hb; subst hb; simp), List.pairwise_singleton _ _, KR, HB, by omega⟩
  case round =>
    clear HO HF KR KG HB hW
    obtain ⟨k, hk8, hkn, rfl, B, c', us, hpl, kg, ho, hf, hbg, hpw, kr, hb, hgw⟩ := hrel
    have HPL := Lib.hid hpl
    clear hpl
    have cg := kg.out.cell
    have fg := kg.out.frozen
    have cr := kr.out.cell
    have fr := kr.out.frozen
    have hlr : w.heap.size < wr.heap.size := by omega
    have hul : us.length ≤ k + 1 := by
      have h1 := guard_to_len (bs.map VD.pl) k
      rw [← HPL.out, List.length_map] at h1
      exact h1
    by_cases hlt : k < 8
    · by_cases hlt2 : k < n
      · obtain ⟨b, o, v, rfl, hvt, hbl, v0, v1, hrv, hvn, _⟩ := vote_at (HR.out.below hb.out) hlt2
        have hxb := HX.out _ (List.mem_of_getElem? hvt)
        have HPT := Lib.hid (guard_next (pl_at hvt))
        obtain ⟨need, A, vn, vc, of⟩ := v
        simp only [VD.pl] at hxb v0 v1 hrv hvn HPT
        obtain ⟨⟨hn1, hn2⟩, hof⟩ := hxb
        have HOF := Lib.hid hof
        have HRV := Lib.hid hrv
        have HVL := Lib.hid (rd_len hrv)
        have hk0 : (0 : Int) ≤ (k : Int) := by omega
        have hk8' : (k : Int) < 8 := by omega
        have hkn' : (k : Int) < (n : Int) := by omega
        clear hof hrv
        obtain ⟨w0, h⟩ : ∃ w0 : World, w0 = wr := ⟨_, rfl⟩
        subst h
        go_wp2
        have KA : Hid (Blk (w0.alloc (.cells #[.bool false, .bool false, .bool false, .bool false, .bool false, .bool false] 62)) w0.heap.size 62 (arr (ofF (of.take 0)))) := Blk.new _ _ _
        have HBA := Lib.hid (below_alloc (w := w0) (.cells #[.bool false, .bool false, .bool false, .bool false, .bool false, .bool false] 62))
        have hwa : w0.heap.size < (w0.alloc (.cells #[.bool false, .bool false, .bool false, .bool false, .bool false, .bool false] 62)).heap.size := by simp
        generalize w0.alloc (.cells #[.bool false, .bool false, .bool false, .bool false, .bool false, .bool false] 62) = W1 at *
        go_loopw [7, 9, 10] (fun s j _ wr => ∃ jj : Nat, jj ≤ vn ∧ j = .int .i64 jj ∧ ∃ C c2, s = .slice C (ofF (of.take jj)).length c2 ∧ Hid (wr.ownsRow (w0.heap.size + 1) 3 1 (.slice C (ofF (of.take jj)).length c2) (ofF (of.take jj)).length (ints (ofF (of.take jj)))) ∧ Hid (Blk wr w0.heap.size 62 (arr (ofF (of.take jj)))) ∧ Hid (Below w0.heap.size w0 wr) ∧ w0.heap.size < wr.heap.size) (fun _ j _ _ => vn - (intOf j).toNat)
        case atStart => exact ⟨0, Nat.zero_le _, rfl, none, 0, rfl, World.ownsRow_nil _ _ _ _, KA, HBA, hwa⟩
        case round =>
          clear KA HBA hwa
          obtain ⟨jj, hjj, rfl, C, c2, rfl, hoc, ka, hb2, hw2⟩ := hrel
          have hb0 := lt_of_cell v0
          have v0' : wr.cell? ⟨b, o + k * 2, none⟩ = some (.int .i64 need) := (World.cell?_of_block (hb2.out.block b hb0)).trans v0
          have v1' : wr.cell? ⟨b, o + k * 2 + 1, none⟩ = some (.slice A vn vc) := (World.cell?_of_block (hb2.out.block b hb0)).trans v1
          by_cases hjl : jj < vn
          · obtain ⟨b2, o2, e7, hc2⟩ := rd_at (HRV.out.below hb2.out) (by omega)
            subst e7
            have hcx := hc2 jj hjl
            have hjl' : jj < of.length := by rw [HVL.out]; exact hjl
            have hx := HOF.out (of.getD jj 0) (by simp [List.getD_eq_getElem?_getD, List.getElem?_eq_getElem hjl'])
            have HNX := Lib.hid (of_next hjl')
            have hlen := of_len (of.take jj)
            generalize of.getD jj 0 = x at *
            have hp6 := pick_lt (n := x) (m := 6) (by omega)
            have HPK : Hid (∀ W, Calls Try.prog 21 #[.int .i64 x, .int .i64 6] W fun e w' => e = .returned (.int .i64 (pickN x 6)) ∧ w' = W) := fun W => picked_any x 6 W hx.1 hx.2 (by omega) (by omega)
            generalize pickN x 6 = y0 at *
            obtain ⟨y, rfl⟩ := Int.eq_ofNat_of_zero_le hp6.1
            have hy6 : y < 6 := by omega
            generalize ofF (of.take jj) = l at *
            have hin := (ka.out.cell y).trans (arr_at l hy6)
            have hfz := ka.out.frozen y
            have hj0 : (0 : Int) ≤ (jj : Int) := by omega
            have hjv : (jj : Int) < (vn : Int) := by omega
            have hy6' : (y : Int) < 6 := by omega
            have hy0' : (0 : Int) ≤ (y : Int) := by omega
            clear hc2 hp6 hx
            by_cases hm : (y : Int) ∈ l
            · have HN1 : Hid (ofF (of.take (jj + 1)) = l) := by rw [Hid, HNX.out, if_pos hm]
              have hdm : decide ((y : Int) ∈ l) = true := decide_eq_true hm
              rw [hdm] at hin
              have KA2 : Hid (Blk (wr.setCell ⟨w0.heap.size, y, none⟩ (.bool true)) w0.heap.size 62 (arr l)) := by
                have h := ka.out.put y (.bool true)
                rw [arr_set l l hy6 (fun i => ⟨fun h => .inl h, fun h => h.elim id (fun e => by rw [e]; exact hm)⟩)] at h
                exact h
              have HO2 : Hid ((wr.setCell ⟨w0.heap.size, y, none⟩ (.bool true)).ownsRow (w0.heap.size + 1) 3 1 (.slice C l.length c2) l.length (ints l)) := ownsRow_setCell_below hoc.out (by simp) _
              have HB2 : Hid (Below w0.heap.size w0 (wr.setCell ⟨w0.heap.size, y, none⟩ (.bool true))) := hb2.out.setCell (by simp) _
              clear hm hdm
              go_wp2_with fail
              refine (HPK.out _).mono ?_
              rintro e w1 ⟨rfl, rfl⟩
              go_wp2
              go_roundw
              case rel => exact ⟨jj + 1, by omega, by go_num, C, c2, by rw [HN1.out], by rw [HN1.out]; exact HO2, by rw [HN1.out]; exact KA2, HB2, by simp; exact hw2⟩
              case measure => simp [intOf]; omega
            · have HN1 : Hid (ofF (of.take (jj + 1)) = l ++ [(y : Int)]) := by rw [Hid, HNX.out, if_neg hm]
              have hdm : decide ((y : Int) ∈ l) = false := decide_eq_false hm
              rw [hdm] at hin
              have HAS : Hid ((arr l).setIfInBounds y (.bool true) = arr (l ++ [(y : Int)])) := arr_set l _ hy6 (fun i => by rw [List.mem_append, List.mem_singleton]; exact or_congr Iff.rfl (by omega))
              clear hm hdm
              go_wp2_with fail
              refine (HPK.out _).mono ?_
              rintro e w1 ⟨rfl, rfl⟩
              go_wp2_with (at_builtin; refine wpList_append_rd _ rfl (.tmp 50) (.tmp 52) 26 rfl (w0.heap.size + 1) 3 i0 _ 1 8 Try.underlying26 hi0 hz0 hz1 hz2 rfl (by omega) _ l.length (ints l) rfl (hoc.out.alloc _) _ 1 1 [.int .i64 (y : Int)] rfl (rd_new _ _ _) ?_ ?_ ?_ ?_ ?_)
              · simp [Value.oneCell']
              · unfold maxLen; omega
              · omega
              · simp; omega
              intro v' w3 ho3 hg3 hat3
              obtain ⟨C', d', rfl, _⟩ := own_shape ho3
              have hrow : ∀ g, (Value.slice C l.length c2).ownBlock = some g → w0.heap.size + 1 ≤ g := fun g hg => (hoc.out.lt g hg).1
              have z3 := hg3.size
              simp only [World.size_alloc] at z3
              have k3 : Blk w3 w0.heap.size 62 (arr l) := (ka.out.alloc _).grown hg3 (fun e => by have := hrow _ e.symm; omega)
              have f3 := k3.frozen y
              have q3 := (k3.cell y).trans (arr_at l hy6)
              have KA2 : Hid (Blk (w3.setCell ⟨w0.heap.size, y, none⟩ (.bool true)) w0.heap.size 62 (arr (l ++ [(y : Int)]))) := by
                have h := k3.put y (.bool true)
                rw [HAS.out] at h
                exact h
              have HO2 : Hid ((w3.setCell ⟨w0.heap.size, y, none⟩ (.bool true)).ownsRow (w0.heap.size + 1) 3 1 (.slice C' (l.length + 1) d') (l.length + 1) (ints (l ++ [(y : Int)]))) := by
                rw [ints_snoc]
                exact ownsRow_setCell_below ho3 (by simp) _
              have HB2 : Hid (Below w0.heap.size w0 (w3.setCell ⟨w0.heap.size, y, none⟩ (.bool true))) := ((hb2.out.alloc (by omega) _).trans (Grow.below hg3 (by simp; omega) (fun g hg => by have := hrow g hg; omega))).setCell (by simp) _
              have hw3 : w0.heap.size < (w3.setCell ⟨w0.heap.size, y, none⟩ (.bool true)).heap.size := by simp; omega
              have HN2 : Hid ((ofF (of.take (jj + 1))).length = l.length + 1) := by rw [Hid, HN1.out, List.length_append]; rfl
              clear ho3 hg3 hat3 hrow k3 hoc ka hb2 v0' v1' hcx hin hfz
              go_wp2
              go_roundw
              case rel => exact ⟨jj + 1, by omega, by go_num, C', d', by rw [HN2.out], by rw [HN2.out, HN1.out]; exact HO2, by rw [HN1.out]; exact KA2, HB2, hw3⟩
              case measure => simp [intOf]; omega
          · obtain rfl : jj = vn := by omega
            have htk : of.take jj = of := List.take_of_length_le (by rw [HVL.out]; exact Nat.le_refl _)
            rw [htk] at hoc ⊢
            have hlen := of_len of
            have HVF : Hid (voteF (need, of) = if (ofF of).length = 0 then [] else [(1 + pickN need ((ofF of).length : Int), ofF of)]) := rfl
            generalize voteF (need, of) = VF at *
            generalize ofF of = l at *
            have KG2 := Lib.hid (kg.out.below hb2.out)
            have HO2 := Lib.hid (own_below ho.out hb2.out)
            have HF2 := Lib.hid (hf.out.below hb2.out)
            have KR2 := Lib.hid (kr.out.below hb2.out)
            have HB2 := Lib.hid (hb.out.trans (hb2.out.mono (by omega)))
            clear ka htk
            by_cases h0 : l.length = 0
            · have HPZ : Hid (us.map VD.pl = guardTo (bs.map VD.pl) (k + 1)) := by rw [Hid, HPT.out, HVF.out, if_pos h0, List.append_nil]; exact HPL.out
              have h0' : decide (0 < (l.length : Int)) = false := decide_eq_false (by omega)
              clear kg ho hf kr hb
              go_wp2
              go_roundw
              case rel => exact ⟨k + 1, by omega, by omega, by go_num, B, c', us, HPZ.out, KG2, HO2, HF2, hbg, hpw, KR2, HB2, by omega⟩
              case measure => simp [intOf]; omega
            · have h0' : 0 < (l.length : Int) := by omega
              have cg2 := KG2.out.cell
              have fg2 := KG2.out.frozen
              have hpk := pick_lt (n := need) (m := (l.length : Int)) (by omega)
              have HPK : Hid (∀ W, Calls Try.prog 21 #[.int .i64 need, .int .i64 (l.length : Int)] W fun e w' => e = .returned (.int .i64 (pickN need (l.length : Int))) ∧ w' = W) := fun W => picked_any need _ W hn1 hn2 (by omega) (by omega)
              generalize pickN need (l.length : Int) = pk at *
              have e1 : IntKind.i64.wrap (1 + pk) = 1 + pk := IntWalk.i64_in _ ⟨by omega, by omega⟩
              generalize hL : l.length = L at *
              have HLL := Lib.hid hL
              have hBlt : Hid (∀ bb, B = some bb → bb.block < w0.heap.size) := fun bb hbb => (ho.out.lt bb.block (by rw [hbb]; rfl)).2
              have hCsh : Hid (∀ a, C = some a → w0.heap.size + 1 ≤ a.block ∧ a.block < wr.heap.size) := by
                obtain ⟨_, _, e1', _, _, _, hs4⟩ := own_shape hoc.out
                injection e1' with e1a _ _
                subst e1a
                exact fun a ha => hs4 a ha
              have HUB : Hid (FrO (w.heap.size + 1) (w.heap.size + 1 + 1 + 1) B [⟨1 + pk, C, L, c2, l⟩] wr) := by
                intro u hu
                simp only [List.mem_singleton] at hu
                subst hu
                refine ⟨own_weaken hoc.out (by omega), by simp only; omega, fun a ha => ?_⟩
                have h1 := hCsh.out a ha
                refine ⟨by omega, h1.2, by omega, fun bb hbb e => ?_⟩
                have h2 := hBlt.out bb hbb
                omega
              have HPW : Hid ((us ++ [(⟨1 + pk, C, L, c2, l⟩ : VD)]).Pairwise VD.apart) := by
                rw [Hid, List.pairwise_append]
                refine ⟨hpw.out, List.pairwise_singleton _ _, fun u hu v hv => ?_⟩
                rw [List.mem_singleton] at hv
                subst hv
                intro a a' ha ha'
                have h1 := ((hf.out u hu).2.2 a ha).2.1
                have h2 := (hCsh.out a' ha').1
                omega
              have HPZ : Hid ((us ++ [(⟨1 + pk, C, L, c2, l⟩ : VD)]).map VD.pl = guardTo (bs.map VD.pl) (k + 1)) := by
                rw [Hid, HPT.out, HVF.out, if_neg (by omega), List.map_append, HPL.out]
                rfl
              clear kg ho hf kr hb hL
              have hbn : some (w.heap.size + 1 + 1 + 1) ≠ (Value.slice B us.length c').ownBlock := fun e => by
                cases B with
                | none => simp [Value.ownBlock] at e
                | some bb => exact hbg.out bb rfl (by simpa [Value.ownBlock] using e.symm)
              have hzz2 := hb2.out.size
              have hgx : w.heap.size + 1 + 1 + 1 < wr.heap.size := by omega
              have hgb : b < wr.heap.size := by omega
              go_wp2
              go_region_law (first
                | (go_simp; go_at_call 21; refine (HPK.out _).mono ?_; rintro e w1 ⟨rfl, rfl⟩)
                | (refine step_append_sl _ (by rfl) _ _ _ (by rfl) (w.heap.size + 1) 50 j0 _ 2 32 Try.underlying22 hj0 hy0 hy1 hy2 rfl (by omega) (.slice B us.length c') us.length (votesV us) (by rfl) ((HO2.out.alloc _).drew) (some ⟨wr.heap.size, 0, none⟩) 1 1 [.int .i64 (1 + pk), .slice C L c2] (by rfl) (rd_newR wr 50 #[.int .i64 (1 + pk), .slice C L c2]) (by simp [Value.oneCell']) (by unfold maxLen; omega) (by omega) (by simp; omega) (us.length + 1) rfl ?_; intro B5 c5 w5 ho5 hg5 hat5; have k5 := ((KG2.out.alloc (.cells #[.int .i64 (1 + pk), .slice C L c2] 50)).drew).grown hg5 hbn; have c5' := k5.cell; have f5' := k5.frozen; have hs5 := hg5.size; simp only [World.size_drew, World.size_alloc] at hs5))
              all_goals
                have hgB : ∀ g, (Value.slice B us.length c').ownBlock = some g → w.heap.size + 1 ≤ g ∧ g ≠ w.heap.size + 1 + 1 + 1 := fun g hg => ⟨(HO2.out.lt g hg).1, fun e => hbn (by rw [← e]; exact hg.symm)⟩
                have hB5 : Hid (∀ bb, B5 = some bb → bb.block ≠ w.heap.size + 1 + 1 + 1) := by
                  intro bb hbb e
                  subst hbb
                  rcases hat5 with hat | hat
                  · have h1 : (Value.slice B us.length c').ownBlock = some bb.block := hat.symm.trans (by rfl)
                    exact (hgB _ h1).2 e
                  · have h1 : bb.block = wr.heap.size + 1 := by simpa [Value.ownBlock] using hat
                    omega
                have HF5 := Lib.hid ((((((HF2.out.snoc HUB.out).below (below_alloc (.cells #[.int .i64 (1 + pk), .slice C L c2] 50))).drew).grown hg5 hat5)).setG 2 (.slice B5 (us.length + 1) c5))
                have HO5 : Hid ((w5.setCell ⟨w.heap.size + 1 + 1 + 1, 2, none⟩ (.slice B5 (us.length + 1) c5)).ownsRow (w.heap.size + 1) 50 2 (.slice B5 (us.length + 1) c5) (us.length + 1) (votesV (us ++ [⟨1 + pk, C, L, c2, l⟩]))) := by
                  rw [votes_snoc]
                  refine own_grown ho5 (grow_setCell w5 _ _) (fun g hg e => ?_)
                  injection e with e
                  cases B5 with
                  | none => simp [Value.ownBlock] at hg
                  | some bb =>
                    have h1 : bb.block = g := by simpa [Value.ownBlock] using hg
                    exact hB5.out bb rfl (h1.trans e)
                have KG5 := Lib.hid (k5.put 2 (.slice B5 (us.length + 1) c5))
                simp only [List.setIfInBounds_toArray, List.set_cons_succ, List.set_cons_zero] at KG5
                have KR5 := Lib.hid ((((KR2.out.alloc (.cells #[.int .i64 (1 + pk), .slice C L c2] 50)).drew).grown hg5 (fun e => by have := (hgB _ e.symm).1; omega)).far (p := ⟨w.heap.size + 1 + 1 + 1, 2, none⟩) (by simp; omega) (.slice B5 (us.length + 1) c5))
                have HB5 : Hid (Below w.heap.size w (w5.setCell ⟨w.heap.size + 1 + 1 + 1, 2, none⟩ (.slice B5 (us.length + 1) c5))) :=
                  (((below_drew (HB2.out.alloc (by omega) (.cells #[.int .i64 (1 + pk), .slice C L c2] 50)))).trans (Grow.below hg5 (by simp; omega) (fun g hg => by have := (hgB g hg).1; omega))).setCell (by simp; omega) _
                have hgw5 : w.heap.size + 1 + 1 + 1 < (w5.setCell ⟨w.heap.size + 1 + 1 + 1, 2, none⟩ (.slice B5 (us.length + 1) c5)).heap.size := by simp; omega
                have hll : us.length + 1 = (us ++ [(⟨1 + pk, C, L, c2, l⟩ : VD)]).length := by simp
                rw [hll] at HO5 KG5
                have HLN := Lib.hid hll
                clear ho5 hg5 hat5 k5 c5' f5' hgB cg2 fg2 v0' v1' hll
                go_wp2
                go_roundw
                case rel => exact ⟨k + 1, by omega, by omega, by go_num, B5, c5, _, HPZ.out, by rw [← HLN.out] at KG5 ⊢; exact KG5, by rw [← HLN.out] at HO5 ⊢; exact HO5, HF5, hB5, HPW, KR5, HB5, hgw5⟩
                case measure => simp [intOf]; omega
      · have HE : Hid (GP = guardTo (bs.map VD.pl) k) := by rw [Hid, HP.out, show min 8 n = k by omega]
        go_wp2
        refine bodyPost_ret (v := guardV 6 d B us.length c') ?_ rfl ?_
        · simp [results, Try.results18, go_sem, cr]
        · rw [HE.out, ← HPL.out]
          refine ⟨B, c', us, w.heap.size + 1, w.heap.size + 1 + 1 + 1, rfl, rfl, by omega, ?_, ?_, hpw.out, ?_⟩
          · repeat' (first | (with_reducible exact ho.out) | (with_reducible refine ownsRow_setCell_below ?_ ?_ _; rotate_left; (simp <;> omega)))
          · repeat' (first | (with_reducible exact hf.out) | (with_reducible refine FrO.low ?_ ?_ _; rotate_left; (simp <;> omega)))
          · repeat' (first | (with_reducible exact hb.out) | (with_reducible refine Below.setCell ?_ ?_ _; rotate_left; (simp <;> omega)))
    · have HE : Hid (GP = guardTo (bs.map VD.pl) k) := by rw [Hid, HP.out, show min 8 n = k by omega]
      have hlt' : 8 ≤ (k : Int) := by omega
      by_cases hlt2 : k < n
      · have hkn' : (k : Int) < (n : Int) := by omega
        clear hlt
        go_wp2
        refine bodyPost_ret (v := guardV 6 d B us.length c') ?_ rfl ?_
        · simp [results, Try.results18, go_sem, cr]
        · rw [HE.out, ← HPL.out]
          refine ⟨B, c', us, w.heap.size + 1, w.heap.size + 1 + 1 + 1, rfl, rfl, by omega, ?_, ?_, hpw.out, ?_⟩
          · repeat' (first | (with_reducible exact ho.out) | (with_reducible refine ownsRow_setCell_below ?_ ?_ _; rotate_left; (simp <;> omega)))
          · repeat' (first | (with_reducible exact hf.out) | (with_reducible refine FrO.low ?_ ?_ _; rotate_left; (simp <;> omega)))
          · repeat' (first | (with_reducible exact hb.out) | (with_reducible refine Below.setCell ?_ ?_ _; rotate_left; (simp <;> omega)))
      · have hkn' : (n : Int) ≤ (k : Int) := by omega
        clear hlt hlt2
        go_wp2
        refine bodyPost_ret (v := guardV 6 d B us.length c') ?_ rfl ?_
        · simp [results, Try.results18, go_sem, cr]
        · rw [HE.out, ← HPL.out]
          refine ⟨B, c', us, w.heap.size + 1, w.heap.size + 1 + 1 + 1, rfl, rfl, by omega, ?_, ?_, hpw.out, ?_⟩
          · repeat' (first | (with_reducible exact ho.out) | (with_reducible refine ownsRow_setCell_below ?_ ?_ _; rotate_left; (simp <;> omega)))
          · repeat' (first | (with_reducible exact hf.out) | (with_reducible refine FrO.low ?_ ?_ _; rotate_left; (simp <;> omega)))
          · repeat' (first | (with_reducible exact hb.out) | (with_reducible refine Below.setCell ?_ ?_ _; rotate_left; (simp <;> omega)))
end Go.Proofs.Ytdofkakbfolpkaa.Sf
