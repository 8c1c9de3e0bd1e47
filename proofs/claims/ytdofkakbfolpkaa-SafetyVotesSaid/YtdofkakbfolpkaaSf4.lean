/-
  The sets of a guard's votes. Conditions: the guard reads, within the reach.
-/
import Derived.Test.YtdofkakbfolpkaaSf6
namespace Go.Proofs.Ytdofkakbfolpkaa.Sf
open Go.RowKit Go.Proofs.Ytdofkakbfolpkaa.W Go.Proofs.Ytdofkakbfolpkaa.Ints Go.Proofs.Ytdofkakbfolpkaa.Pop

theorem size_ways {m : Int} {n : Nat} {ps : List (Int × List Int)} (hl : ps.length = n) (h : sizeBad m ps) : m < 1 ∨ (1 ≤ m ∧ 64 < m) ∨ (1 ≤ m ∧ m ≤ 64 ∧ n = 0) ∨ (1 ≤ m ∧ m ≤ 64 ∧ 16 < n) := by
  unfold sizeBad at h
  omega
set_option maxHeartbeats 3200000 in
theorem sets_size (m d : Int) (Q : Option Addr) (n c : Nat) (vs : List VD) (w : World) (hr : GRd w Q n vs) (h : sizeBad m (vs.map VD.pl)) :
    Calls Try.prog 22 #[guardV m d Q n c] w fun e w' => SetsT w w' e m d (vs.map VD.pl) := by
  have hl : (vs.map VD.pl).length = n := by rw [List.length_map]; exact hr.len
  have hg : guardF m d (vs.map VD.pl) = (4, 0) := by unfold guardF; rw [if_pos h]
  have hs : setsF m d (vs.map VD.pl) = [] := by unfold setsF; rw [hg, if_neg (by decide)]
  have hw := size_ways hl h
  generalize vs.map VD.pl = ps at *
  have HG := Lib.hid hg
  have HS := Lib.hid hs
  clear hg hs h hr hl
  rcases hw with h1 | ⟨h0, h1⟩ | ⟨h0, h1, rfl⟩ | ⟨h0, h1, h2⟩
  · go_enter Try.func22, Try.ntmps22
    go_wp2
    refine bodyPost_ret (v := .tuple #[.slice none 0 0, faultV (4, 0)]) (by simp [results, Try.results22, go_sem]) rfl ?_
    exact sets_nil HG.out HS.out (below2 w _ _)
  · go_enter Try.func22, Try.ntmps22
    go_wp2
    refine bodyPost_ret (v := .tuple #[.slice none 0 0, faultV (4, 0)]) (by simp [results, Try.results22, go_sem]) rfl ?_
    exact sets_nil HG.out HS.out (below2 w _ _)
  · go_enter Try.func22, Try.ntmps22
    go_wp2
    refine bodyPost_ret (v := .tuple #[.slice none 0 0, faultV (4, 0)]) (by simp [results, Try.results22, go_sem]) rfl ?_
    exact sets_nil HG.out HS.out (below2 w _ _)
  · have h3 : ((n : Int) == 0) = false := by simp; omega
    go_enter Try.func22, Try.ntmps22
    go_wp2
    refine bodyPost_ret (v := .tuple #[.slice none 0 0, faultV (4, 0)]) (by simp [results, Try.results22, go_sem]) rfl ?_
    exact sets_nil HG.out HS.out (below2 w _ _)

set_option maxHeartbeats 3200000 in
theorem sets_delay (m d : Int) (Q : Option Addr) (n c : Nat) (vs : List VD) (w : World) (hr : GRd w Q n vs) (h : ¬ sizeBad m (vs.map VD.pl)) (hd : d < 0 ∨ 1000 < d) :
    Calls Try.prog 22 #[guardV m d Q n c] w fun e w' => SetsT w w' e m d (vs.map VD.pl) := by
  have hl : (vs.map VD.pl).length = n := by rw [List.length_map]; exact hr.len
  have hg : guardF m d (vs.map VD.pl) = (3, 0) := by unfold guardF; rw [if_neg h, if_pos hd]
  have hs : setsF m d (vs.map VD.pl) = [] := by unfold setsF; rw [hg, if_neg (by decide)]
  have hw : 1 ≤ m ∧ m ≤ 64 ∧ 1 ≤ n ∧ n ≤ 16 := by unfold sizeBad at h; omega
  generalize vs.map VD.pl = ps at *
  have HG := Lib.hid hg
  have HS := Lib.hid hs
  clear hg hs h hr hl
  obtain ⟨m1, m2, n1, n2⟩ := hw
  have h3 : ((n : Int) == 0) = false := by simp; omega
  by_cases d0 : d < 0
  · clear hd
    go_enter Try.func22, Try.ntmps22
    go_wp2
    refine bodyPost_ret (v := .tuple #[.slice none 0 0, faultV (3, 0)]) (by simp [results, Try.results22, go_sem]) rfl ?_
    exact sets_nil HG.out HS.out (below2 w _ _)
  · have d1 : 0 ≤ d := by omega
    have d2 : 1000 < d := by omega
    clear hd d0
    go_enter Try.func22, Try.ntmps22
    go_wp2
    refine bodyPost_ret (v := .tuple #[.slice none 0 0, faultV (3, 0)]) (by simp [results, Try.results22, go_sem]) rfl ?_
    exact sets_nil HG.out HS.out (below2 w _ _)

set_option maxHeartbeats 6400000 in
theorem sets_any (m d : Int) (Q : Option Addr) (n c : Nat) (vs : List VD) (w : World) (hr : GRd w Q n vs) :
    Calls Try.prog 22 #[guardV m d Q n c] w fun e w' => SetsT w w' e m d (vs.map VD.pl) := by
  by_cases h : sizeBad m (vs.map VD.pl)
  · exact sets_size m d Q n c vs w hr h
  by_cases hd : d < 0 ∨ 1000 < d
  · exact sets_delay m d Q n c vs w hr h hd
  obtain ⟨i0, hi0, hz0, hz1, hz2⟩ := info_parts set_info
  have hl := hr.len
  have hlp : (vs.map VD.pl).length = n := by rw [List.length_map]; exact hl
  have hw : 1 ≤ m ∧ m ≤ 64 ∧ 1 ≤ n ∧ n ≤ 16 := by unfold sizeBad at h; omega
  obtain ⟨m1, m2, n1, n2⟩ := hw
  have h3 : ((n : Int) == 0) = false := by simp; omega
  have d1 : 0 ≤ d := by omega
  have d2 : d ≤ 1000 := by omega
  have HGB : Hid (∀ (k : Nat) (v : VD), vs[k]? = some v → badV m v.pl = true → ((vs.map VD.pl).take k).any (badV m) = false → guardF m d (vs.map VD.pl) = (codeF m v.need v.of, (k : Int)) ∧ setsF m d (vs.map VD.pl) = []) :=
    fun k v ht hb ha => guard_bad h hd (pl_at ht) hb ha
  have HGO : Hid ((vs.map VD.pl).any (badV m) = false → guardF m d (vs.map VD.pl) = (0, 0) ∧ setsF m d (vs.map VD.pl) = (vs.map VD.pl).map fun p => setF p.2) := fun ha => guard_ok h hd ha
  have HR := Lib.hid hr
  have HL := Lib.hid hl
  have HLP := Lib.hid hlp
  have HP : Hid (∀ (w' : World) (e : Ending), SetsT w w' e m d (vs.map VD.pl) → SetsT w w' e m d (vs.map VD.pl)) := fun _ _ h => h
  generalize hPost : SetsT w = Po at *
  have HPo := Lib.hid hPost
  clear h hd hr hl hlp HP hPost
  go_enter Try.func22, Try.ntmps22
  go_wp2
  generalize hW : World.alloc (w.alloc _) _ = W
  have k0 : Blk W w.heap.size 24 #[.int .i64 m, .int .i64 d, .slice Q n c] := by rw [← hW]; exact (Blk.new w _ _).alloc _
  have k1 : Blk W (w.heap.size + 1) 33 #[.int .i64 0, .int .i64 0, .int .i64 0] := by
    rw [← hW]
    have h := Blk.new (w.alloc (.cells #[.int .i64 m, .int .i64 d, .slice Q n c] 24)) 33 #[.int .i64 0, .int .i64 0, .int .i64 0]
    simpa only [World.size_alloc] using h
  have B0 : Hid (Below w.heap.size w W) := by rw [← hW]; exact below2 _ _ _
  have zW : W.heap.size = w.heap.size + 2 := by rw [← hW]; simp
  have K0 := Lib.hid k0
  have K1 := Lib.hid k1
  have ZW := Lib.hid zW
  clear hW k0 k1 zW
  go_loopw [4, 5, 6, 7, 8, 42] (fun v _ _ _ _ i wr => ∃ k : Nat, k ≤ n ∧ i = .int .i64 k ∧ ∃ B c', v = .slice B k c' ∧ Hid (wr.ownsRow W.heap.size 59 1 (.slice B k c') k (setsTo vs k)) ∧ Hid (Below W.heap.size W wr) ∧ Hid (((vs.map VD.pl).take k).any (badV m) = false)) (fun _ _ _ _ _ i _ => n - (intOf i).toNat)
  case atStart => exact ⟨0, Nat.zero_le _, rfl, _, _, rfl, World.ownsRow_nil _ _ _ _, Below.refl _ _, by simp [Hid]⟩
  case round =>
    obtain ⟨k, hk, rfl, B, c', rfl, ho, hb, ha⟩ := hrel
    have c0' := (K0.out.below hb.out).cell
    have c1' := (K1.out.below hb.out).cell
    have f1' := (K1.out.below hb.out).frozen
    have hz := hb.out.size
    have hzW := ZW.out
    have z0 : w.heap.size < wr.heap.size := by omega
    have z1 : w.heap.size + 1 < wr.heap.size := by omega
    by_cases hlt : k < n
    · obtain ⟨b, o, v, rfl, ht, hbl, d0, e0, hrv, hvn, hvc⟩ := vote_at (HR.out.below (B0.out.trans (hb.out.mono (by omega)))) hlt
      have HT := Lib.hid ht
      have HV := Lib.hid hrv
      have hk0 : (0 : Int) ≤ (k : Int) := by omega
      have hkn : (k : Int) < (n : Int) := by omega
      clear ht hrv
      obtain ⟨need, A, vn, vc, of⟩ := v
      simp only at d0 e0 hvn hvc
      go_wp2_with fail
      refine (vote_any need A vn vc m of _ (HV.out.alloc _) hvn m2).mono ?_
      rintro e w2 ⟨rfl, hb2⟩
      obtain ⟨k2, hb3, z2⟩ := call1 hb2
      clear hzW c0' c1' f1' d0 e0
      have z3 := hb3.size
      have c2' := k2.cell
      have c0' := ((K0.out.below hb.out).below hb3).cell
      have c1' := ((K1.out.below hb.out).below hb3).cell
      have f1' := ((K1.out.below hb.out).below hb3).frozen
      have O3 := Lib.hid (own_below ho.out hb3)
      have B3 := Lib.hid (hb.out.trans (hb3.mono hz))
      clear k2 hb2 hb3
      cases hbad : badV m (need, of)
      · have h0 : codeF m need of = 0 := by simpa [badV] using hbad
        have hT : voteR m need of = (setF of, 0) := by simp [voteR, h0]
        have hsz := set_size m2 hbad
        have HN := Lib.hid (bad_next (pl_at HT.out) ha.out hbad)
        have HST := Lib.hid (sets_take HT.out)
        rw [hT]
        simp only at hsz ⊢
        clear hT h0 hbad ho hb
        generalize hSS : setF of = s at *
        have HSS := Lib.hid hSS
        clear hSS
        go_wp2_with (at_builtin; refine wpList_append_rd _ rfl (.tmp 59) (.tmp 61) 54 rfl W.heap.size 59 i0 _ 1 8 Try.underlying54 hi0 hz0 hz1 hz2 rfl (by omega) _ k _ rfl (O3.out.alloc _) _ 1 1 [setV s] rfl (rd_new _ _ _) ?_ ?_ ?_ ?_ ?_)
        · simp [Value.oneCell']
        · unfold maxLen; omega
        · omega
        · simp; omega
        intro v' w3 ho3 hg3 hat3
        obtain ⟨B', d', rfl, _⟩ := own_shape ho3
        have hrow : ∀ g, (Value.slice B k c').ownBlock = some g → W.heap.size ≤ g := fun g hg => (O3.out.lt g hg).1
        have hb4 : Below W.heap.size W w3 := (B3.out.alloc (by omega) _).trans (Grow.below hg3 (by simp; omega) (fun g hg => by have := hrow g hg; omega))
        have HO3 : Hid (w3.ownsRow W.heap.size 59 1 (.slice B' (k + 1) d') (k + 1) (setsTo vs (k + 1))) := by rw [HST.out]; exact ho3
        have HB4 := Lib.hid hb4
        clear ho3 hg3 hat3 hb4 hrow c0' c1' f1' c2'
        go_wp2
        go_roundw
        case rel => exact ⟨k + 1, by omega, by go_num, B', d', rfl, HO3, HB4, HN⟩
        case measure => simp [intOf]; omega
      · have h0 : codeF m need of ≠ 0 := by simpa [badV] using hbad
        have hT : voteR m need of = (0, codeF m need of) := by simp [voteR, h0]
        have HX := Lib.hid (HGB.out k _ HT.out hbad ha.out)
        rw [hT]
        simp only at HX ⊢
        generalize hCC : codeF m need of = cc at *
        have h0' : (cc != 0) = true := by simp [h0]
        clear hT hbad hCC h0
        go_wp2
        refine bodyPost_ret (v := .tuple #[.slice none 0 0, faultV (cc, k)]) ?_ rfl ?_
        · simp [results, Try.results22, go_sem, c1']
        · rw [← HPo.out]
          have hzW := ZW.out
          have BB : Below w.heap.size w w2 := B0.out.trans (B3.out.mono (by omega))
          have hsz := BB.size
          refine sets_nil (by simpa [VD.pl] using HX.out.1) HX.out.2 ?_
          repeat' (first | (with_reducible exact BB) | (with_reducible refine Below.setCell ?_ ?_ _; rotate_left; (simp <;> omega)))
    · obtain rfl : k = n := by omega
      have HX := Lib.hid (HGO.out (by have h := ha.out; rwa [List.take_of_length_le (by rw [HLP.out]; omega)] at h))
      go_wp2
      refine bodyPost_ret (v := .tuple #[.slice B k c', faultV (0, 0)]) ?_ rfl ?_
      · simp [results, Try.results22, go_sem, c1']
      · rw [← HPo.out]
        have BB : Below w.heap.size w wr := B0.out.trans (hb.out.mono (by omega))
        have e1 : setsTo vs k = (setsF m d (vs.map VD.pl)).map setV := by rw [HX.out.2, sets_all (by rw [HL.out]; omega)]
        have e2 : (setsF m d (vs.map VD.pl)).length = k := by rw [HX.out.2, List.length_map, HLP.out]
        have HO := ho.out
        rw [e1] at HO
        refine ⟨B, c', by rw [e2, HX.out.1], ?_, ?_⟩
        · rw [e2]
          refine own_weaken (base := W.heap.size) ?_ (by omega)
          repeat' (first | (with_reducible exact HO) | (with_reducible refine ownsRow_setCell_below ?_ ?_ _; rotate_left; (simp <;> omega)))
        · repeat' (first | (with_reducible exact BB) | (with_reducible refine Below.setCell ?_ ?_ _; rotate_left; (simp <;> omega)))
end Go.Proofs.Ytdofkakbfolpkaa.Sf
