/-
  What the sensors tell, from raw numbers; whether a vote holds. Conditions: the rows read, within the reach.
-/
import Derived.Test.YtdofkakbfolpkaaKeep1
import Derived.Test.YtdofkakbfolpkaaSg6
namespace Go.Proofs.Ytdofkakbfolpkaa.Sf
open Go.RowKit Go.Proofs.Ytdofkakbfolpkaa.W Go.Proofs.Ytdofkakbfolpkaa.Ints Go.Proofs.Ytdofkakbfolpkaa.Pop Go.Proofs.Ytdofkakbfolpkaa.Keep

def tellTo (xs : List Int) (k : Nat) : List Int := (List.range 6).map fun i => if i < k then pickN (xs.getD i 0) 3 else 0
def tellF (xs : List Int) : List Int := tellTo xs (min 6 xs.length)
theorem tell_zero (xs : List Int) : tellTo xs 0 = List.replicate 6 0 := by simp [tellTo]; decide
theorem tell_next (xs : List Int) {k : Nat} (_hk : k < 6) : tellTo xs (k + 1) = (tellTo xs k).set k (pickN (xs.getD k 0) 3) := by
  unfold tellTo
  refine List.ext_getElem (by simp) fun i h1 h2 => ?_
  simp only [List.length_map, List.length_range] at h1
  rw [List.getElem_set]
  simp only [List.getElem_map, List.getElem_range]
  by_cases h : k = i
  · subst h
    simp
  · rw [if_neg h]
    by_cases h3 : i < k
    · rw [if_pos h3, if_pos (by omega)]
    · rw [if_neg h3, if_neg (by omega)]
theorem tell_len (xs : List Int) : (tellF xs).length = 6 := by simp [tellF, tellTo]
theorem tell_ok (xs : List Int) : toldB (tellF xs) = false := by
  unfold toldB
  rw [List.any_eq_false]
  intro x hx
  unfold tellF tellTo at hx
  obtain ⟨i, _, rfl⟩ := List.mem_map.1 hx
  split
  · have := pick_lt (n := xs.getD i 0) (m := 3) (by omega)
    generalize pickN (xs.getD i 0) 3 = v at *
    simp [outB]
    omega
  · decide
/-- a fresh row of six numbers -/
def FreshSix (w w' : World) (e : Ending) (zs : List Int) : Prop :=
  ∃ g, e = .returned (.slice (some ⟨g, 0, none⟩) 6 6) ∧ w.heap.size ≤ g ∧ g < w'.heap.size ∧ w'.ownsRow w.heap.size 3 1 (.slice (some ⟨g, 0, none⟩) 6 6) 6 (ints zs) ∧ Below w.heap.size w w'

set_option maxHeartbeats 1600000 in
theorem tell_any (A : Option Addr) (n c : Nat) (key : Bool) (xs : List Int) (w : World) (hr : Rd w 1 A n (ints xs)) (hn : n * 8 ≤ 140737488351232) (hx : ∀ x ∈ xs, -9223372036854775808 ≤ x ∧ x ≤ 9223372036854775807) :
    Calls Try.prog 19 #[.agg #[.slice A n c, .bool key]] w fun e w' => FreshSix w w' e (tellF xs) := by
  have hmk := make_any 6 (by omega)
  simp only [Int.cast_ofNat_Int] at hmk
  have HR := Lib.hid hr
  have HL := Lib.hid (rd_len hr)
  have HX := Lib.hid hx
  have HP : Hid (tellF xs = tellTo xs (min 6 n)) := by rw [Hid, tellF, rd_len hr]
  generalize tellF xs = TF at *
  clear hr hx
  go_enter Try.func19, Try.ntmps19
  go_wp2
  have HO : Hid (((w.alloc (.cells #[.slice A n c, .bool key] 47)).alloc (.cells (noughts 6) 3)).ownsRow (w.heap.size + 1) 3 1 (.slice (some ⟨w.heap.size + 1, 0, none⟩) 6 6) 6 (ints (tellTo xs 0))) := by
    rw [tell_zero]
    have h := make_own 6 (by omega) (w.alloc (.cells #[.slice A n c, .bool key] 47)) (base := w.heap.size + 1) (by simp)
    rw [Hid]
    simpa only [World.size_alloc] using h
  have K0 : Hid (Blk ((w.alloc (.cells #[.slice A n c, .bool key] 47)).alloc (.cells (noughts 6) 3)) w.heap.size 47 #[.slice A n c, .bool key]) := (Blk.new w _ _).alloc _
  have HB := Lib.hid (below2 w (.cells #[.slice A n c, .bool key] 47) (.cells (noughts 6) 3))
  have hW : ((w.alloc (.cells #[.slice A n c, .bool key] 47)).alloc (.cells (noughts 6) 3)).heap.size = w.heap.size + 2 := by simp
  generalize (w.alloc (.cells #[.slice A n c, .bool key] 47)).alloc (.cells (noughts 6) 3) = W at *
  clear hmk
  go_loopw [4] (fun i wr => ∃ k : Nat, k ≤ 6 ∧ k ≤ n ∧ i = .int .i64 k ∧ Hid (wr.ownsRow (w.heap.size + 1) 3 1 (.slice (some ⟨w.heap.size + 1, 0, none⟩) 6 6) 6 (ints (tellTo xs k))) ∧ Hid (Blk wr w.heap.size 47 #[.slice A n c, .bool key]) ∧ Hid (Below w.heap.size w wr) ∧ w.heap.size + 1 < wr.heap.size) (fun i _ => 6 - (intOf i).toNat)
  case atStart => exact ⟨0, by omega, Nat.zero_le _, rfl, HO, K0, HB, by omega⟩
  case round =>
    clear HO K0 HB hW
    obtain ⟨k, hk6, hkn, rfl, ho, k0, hb, hw⟩ := hrel
    have c0 := k0.out.cell
    by_cases hlt : k < 6
    · by_cases hlt2 : k < n
      · obtain ⟨b, o, rfl, hc⟩ := rd_at (HR.out.below hb.out) (by omega)
        have h1 := hc k hlt2
        have hk' : k < xs.length := by rw [HL.out]; exact hlt2
        have hxb := HX.out (xs.getD k 0) (by simp [List.getD_eq_getElem?_getD, List.getElem?_eq_getElem hk'])
        have HTN := Lib.hid (tell_next xs (k := k) hlt)
        generalize xs.getD k 0 = x at *
        clear hc
        have hfz := ho.out.frozenAt k
        have hll : (ints (tellTo xs k)).length = 6 := by simp [tellTo]
        obtain ⟨u, hu⟩ : ∃ u, wr.cell? ⟨w.heap.size + 1, k, none⟩ = some u := by
          rw [ho.out.cellAt k (by omega)]
          exact ⟨_, List.getElem?_eq_getElem (by omega)⟩
        obtain ⟨g1, g2⟩ := ho.out.stored k (.int .i64 (pickN x 3))
        rw [ints_set, ← HTN.out] at g1
        have G1 := Lib.hid g1
        have G2 := Lib.hid ((k0.out.far (p := ⟨w.heap.size + 1, k, none⟩) (by simp)) (.int .i64 (pickN x 3)))
        have G3 := Lib.hid (hb.out.setCell (p := ⟨w.heap.size + 1, k, none⟩) (by simp) (.int .i64 (pickN x 3)))
        have hk0 : (0 : Int) ≤ (k : Int) := by omega
        have hk6' : (k : Int) < 6 := by omega
        have hkn' : (k : Int) < (n : Int) := by omega
        clear g1 g2 hll
        go_wp2_with fail
        refine (picked_any x 3 _ hxb.1 hxb.2 (by omega) (by omega)).mono ?_
        rintro e w1 ⟨rfl, rfl⟩
        generalize pickN x 3 = y at *
        go_wp2
        go_roundw
        case rel => exact ⟨k + 1, by omega, by omega, by go_num, G1, G2, G3, by simp; omega⟩
        case measure => simp [intOf]; omega
      · have hTF : TF = tellTo xs k := by rw [HP.out, show min 6 n = k by omega]
        go_wp2
        go_ret
        exact ⟨w.heap.size + 1, rfl, by omega, hw, by rw [hTF]; exact own_weaken ho.out (by omega), hb.out⟩
    · have hTF : TF = tellTo xs k := by rw [HP.out, show min 6 n = k by omega]
      have hk6' : k = 6 := by omega
      subst hk6'
      go_wp2
      go_ret
      exact ⟨w.heap.size + 1, rfl, by omega, hw, by rw [hTF]; exact own_weaken ho.out (by omega), hb.out⟩

set_option maxHeartbeats 1600000 in
theorem holds_any (need : Int) (A : Option Addr) (n c : Nat) (of : List Int) (Z : Option Addr) (tl z : Nat) (told : List Int) (w : World) (hr : Rd w 1 A n (ints of)) (hn : n * 8 ≤ 140737488351232) (hz : Rd w 1 Z tl (ints told)) (ho : ∀ x ∈ of, 0 ≤ x ∧ x < tl) :
    Calls Try.prog 20 #[.agg #[.int .i64 need, .slice A n c], .slice Z tl z] w fun e w' => e = .returned (.bool (holdsB told (need, of))) ∧ Below w.heap.size w w' := by
  have HR := Lib.hid hr
  have HL := Lib.hid (rd_len hr)
  have HZ := Lib.hid hz
  have HOF := Lib.hid ho
  have HBB : Hid (holdsB told (need, of) = decide (need ≤ (votesOn told of : Int))) := rfl
  generalize holdsB told (need, of) = HB at *
  clear hr hz ho
  go_enter Try.func20, Try.ntmps20
  go_wp2
  go_loop [5, 6] (fun nn j => ∃ jj : Nat, jj ≤ n ∧ j = .int .i64 jj ∧ nn = .int .i64 (votesOn told (of.take jj))) (fun _ j => n - (intOf j).toNat)
  case atStart => exact ⟨0, Nat.zero_le _, rfl, by simp [votesOn]⟩
  case round =>
    obtain ⟨jj, hjj, rfl, rfl⟩ := hrel
    by_cases hlt4 : jj < n
    · obtain ⟨b2, o2, e7, hc2⟩ := rd_at HR.out (by omega)
      subst e7
      have hcx := hc2 jj hlt4
      have hb2 := lt_of_cell hcx
      have hjl : jj < of.length := by rw [HL.out]; exact hlt4
      have hx := HOF.out (of.getD jj 0) (by simp [List.getD_eq_getElem?_getD, List.getElem?_eq_getElem hjl])
      have HVQ : Hid (∀ xx : Nat, of.getD jj 0 = (xx : Int) → votesOn told (of.take (jj + 1)) = votesOn told (of.take jj) + if (told.getD xx 0 != 0) = true then 1 else 0) := fun xx h => votes_next' hjl h
      have hvb : votesOn told (of.take jj) ≤ jj := by
        have h1 : votesOn told (of.take jj) ≤ (of.take jj).length := List.length_filter_le _ _
        rw [List.length_take] at h1
        omega
      generalize of.getD jj 0 = x at *
      obtain ⟨xx, rfl⟩ := Int.eq_ofNat_of_zero_le hx.1
      have hxt : xx < tl := by omega
      obtain ⟨b3, o3, e8, hc3⟩ := rd_at HZ.out (by omega)
      subst e8
      have hcy := hc3 xx hxt
      have hb3 := lt_of_cell hcy
      have HVN := Lib.hid (HVQ.out xx rfl)
      clear HVQ
      generalize told.getD xx 0 = y at *
      have hxt' : (xx : Int) < (tl : Int) := by omega
      have hj0 : (0 : Int) ≤ (jj : Int) := by omega
      have hjv : (jj : Int) < (n : Int) := by omega
      generalize votesOn told (of.take jj) = V0 at *
      clear hc2 hc3 hx
      cases hy : (y != 0)
      · have HV1 : Hid (votesOn told (of.take (jj + 1)) = V0) := by rw [Hid, HVN.out, if_neg (by rw [hy]; decide)]; rfl
        go_wp2
        go_round
        case rel => exact ⟨jj + 1, by omega, by go_num, by rw [HV1.out]⟩
        case measure => simp [intOf]; omega
      · have HV1 : Hid (votesOn told (of.take (jj + 1)) = V0 + 1) := by rw [Hid, HVN.out, if_pos hy]
        go_wp2
        go_round
        case rel => exact ⟨jj + 1, by omega, by go_num, by rw [HV1.out]; go_num⟩
        case measure => simp [intOf]; omega
    · obtain rfl : jj = n := by omega
      have htk : of.take jj = of := List.take_of_length_le (by rw [HL.out]; exact Nat.le_refl _)
      rw [htk]
      go_wp2
      go_ret
      exact ⟨ret_bool (by rw [HBB.out]), below_alloc _⟩
end Go.Proofs.Ytdofkakbfolpkaa.Sf
