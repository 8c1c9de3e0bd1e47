/-
  The walk of the law SafetyCheck. Conditions: the argument reads, within the form's own reach.
-/
import Derived.Test.YtdofkakbfolpkaaSf8
import Derived.Test.YtdofkakbfolpkaaRecs
import Derived.Deep.RegionWith
namespace Go.Proofs.Ytdofkakbfolpkaa.Sf
open Go.RowKit Go.Proofs.Ytdofkakbfolpkaa.W Go.Proofs.Ytdofkakbfolpkaa.Ints Go.Proofs.Ytdofkakbfolpkaa.Pop

theorem below_step {w2 W w' : World} (h : Hid (Below w2.heap.size w2 W)) (hb : Below W.heap.size W w') : Below w2.heap.size w2 w' := h.out.trans (hb.mono h.out.size)
theorem vote_in {H : Type} {enc : TypeId × Value → H} {w : World} {cs : List Value} (h : O.Op enc Try.prog w 50 cs) : ∃ v : VD, cs = v.cs ∧ (Rd w 1 v.A v.n (ints v.of) ∧ v.n * 8 ≤ 140737488351232 ∧ v.n ≤ v.c) := by
  obtain ⟨hl, hf⟩ := h.struct Try.underlying50
  match cs, hl.trans (by kernel_rfl : Try.prog.cellsOf 50 = 2) with
  | [c0, c1], _ =>
    obtain ⟨x0, e0, _⟩ := (hf 0 _ rfl).i64 Try.underlying3
    obtain ⟨A, n, c, xs, e1, hnc, hc, hr, _, _⟩ := (hf 1 _ rfl).ints Try.underlying26 Try.underlying3 (by kernel_rfl) (by kernel_rfl)
    have k3 : Try.prog.cellsOf 3 = 1 := by kernel_rfl
    have k26 : Try.prog.cellsOf 26 = 1 := by kernel_rfl
    simp [k3, k26] at e0 e1
    subst e0 e1
    exact ⟨⟨x0, A, n, c, xs⟩, rfl, hr, (by simp only; omega), hnc⟩
theorem guard_in {H : Type} {enc : TypeId × Value → H} {w : World} {cs : Array Value} (h : O.Op enc Try.prog w 24 cs.toList) :
    ∃ (m d : Int) (Q : Option Addr) (n c : Nat) (vs : List VD), Value.agg cs = guardV m d Q n c ∧ GRd w Q n vs ∧ n * 32 ≤ 140737488351232 := by
  obtain ⟨hl, hf⟩ := h.struct Try.underlying24
  obtain ⟨l⟩ := cs
  simp only at hl hf
  match l, hl.trans (by kernel_rfl : Try.prog.cellsOf 24 = 3) with
  | [c0, c1, c2], _ =>
    obtain ⟨m, e0, _⟩ := (hf 0 _ rfl).i64 Try.underlying3
    obtain ⟨d, e1, _⟩ := (hf 1 _ rfl).i64 Try.underlying3
    obtain ⟨A, n, c, vs, e2, h1, h2, h3, h4, _⟩ := (hf 2 _ rfl).recs (bt := 32) (Pr := fun v : VD => Rd w 1 v.A v.n (ints v.of) ∧ v.n * 8 ≤ 140737488351232 ∧ v.n ≤ v.c) VD.len (by omega) ⟨0, none, 0, 0, []⟩ Try.underlying22 (by kernel_rfl) (by kernel_rfl) (fun cs h => vote_in h)
    have k3 : Try.prog.cellsOf 3 = 1 := by kernel_rfl
    have k22 : Try.prog.cellsOf 22 = 1 := by kernel_rfl
    simp [k3, k22] at e0 e1 e2
    subst e0 e1 e2
    exact ⟨m, d, A, n, c, vs, rfl, ⟨h3, h4⟩, by omega⟩
theorem begin_len (m d : Int) (ps : List (Int × List Int)) : (beginF m d ps).1.held.length ≤ 16 := by
  unfold beginF
  split
  · rename_i h
    have := (guard_len h).1
    simpa using this
  · simp

theorem drop_mid {w : World} {Ks : List Box} {a0 a1 a2 : Own} (h : St w Ks [a0, a1, a2]) : St w Ks [a0, a2] :=
  h.keep (fun _ hk => hk) (fun o ho => by simp only [List.mem_cons, List.not_mem_nil, or_false] at ho ⊢; rcases ho with h | h <;> simp [h])

set_option maxHeartbeats 3200000 in
theorem walk_Check (H : Type) (enc : TypeId × Value → H) (w : World) (cs : Array Value) (ho : O.Op enc Try.prog w 24 cs.toList) :
    Calls Try.prog 3 #[.agg cs] w fun e w' => e = .returned (.bool true) ∧ Below w.heap.size w w' := by
  obtain ⟨m, d, Q, n, c, vs, hcs, hr, hn⟩ := guard_in ho
  rw [hcs]
  clear ho hcs
  have hl := begin_len m d (vs.map VD.pl)
  have HBG : Hid (∀ W : World, GRd W Q n vs → Calls Try.prog 8 #[guardV m d Q n c] W fun e w' => TripT W w' e (beginF m d (vs.map VD.pl))) := fun W h => Begun_any m d Q n c vs W h
  have HST : Hid (∀ (W : World) (B : Option Addr) (c1 : Nat) (us : List VD), us.map VD.pl = vs.map VD.pl → GRd W B n us → Calls Try.prog 9 #[guardV m d B n c1] W fun e w' => TripT W w' e (beginF m d (vs.map VD.pl))) := fun W B c1 us he h => by rw [← he]; exact Start_any m d B n c1 us W h
  have HGD : Hid (∀ W : World, GRd W Q n vs → Calls Try.prog 11 #[guardV m d Q n c] W fun e w' => e = .returned (faultV (guardF m d (vs.map VD.pl))) ∧ Below W.heap.size W w') := fun W h => Guarded_any m d Q n c vs W h
  have HCK : Hid (∀ (W : World) (B : Option Addr) (c1 : Nat) (us : List VD), us.map VD.pl = vs.map VD.pl → GRd W B n us → Calls Try.prog 10 #[guardV m d B n c1] W fun e w' => e = .returned (faultV (guardF m d (vs.map VD.pl))) ∧ Below W.heap.size W w') := fun W B c1 us he h => by rw [← he]; exact Check_any m d B n c1 us W h
  have HGO : Hid (∀ W : World, GRd W Q n vs → Calls Try.prog 7 #[guardV m d Q n c] W fun e w' => ∃ B c' us, e = .returned (guardV m d B n c') ∧ us.map VD.pl = vs.map VD.pl ∧ GRd w' B n us ∧ Below W.heap.size W w') := fun W h => guardOf_any m d Q n c vs W h hn
  generalize beginF m d (vs.map VD.pl) = T at *
  generalize guardF m d (vs.map VD.pl) = G at *
  obtain ⟨⟨down, first, hs, key⟩, E⟩ := T
  simp only at hl
  have HR := Lib.hid hr
  clear hr
  go_enter Try.func3, Try.ntmps3
  go_wp2_with fail
  refine (HGO.out _ (HR.out.alloc _)).mono ?_
  rintro e w1 ⟨B, c1, us, rfl, hpl, hu, hb⟩
  have HPL := Lib.hid hpl
  have HU := Lib.hid hu
  have S1 := Lib.hid ((((St.nil w).alloc 24 #[.int .i64 m, .int .i64 d, .slice Q n c]).below hb).alloc 24 #[.int .i64 m, .int .i64 d, .slice B n c1])
  have z1 := hb.size
  simp only [World.size_alloc] at z1
  have B1 := Lib.hid (((below_alloc _).trans (hb.mono (by simp))).alloc (by omega) (.cells #[.int .i64 m, .int .i64 d, .slice B n c1] 24))
  have HU1 := Lib.hid (hu.alloc (.cells #[.int .i64 m, .int .i64 d, .slice B n c1] 24))
  clear hpl hu hb HU HGO
  have ca := S1.out.cell (List.Mem.head _)
  have cb := S1.out.cell (List.Mem.tail _ (List.Mem.head _))
  go_wp2_with fail
  refine (HBG.out _ (HR.out.below B1.out)).mono ?_
  rintro e w2 ⟨A2, c2, rfl, ho2, hb2⟩
  simp only at ho2 ⊢
  have z2 := hb2.size
  simp only [World.size_alloc] at z2
  have S2 := Lib.hid ((((S1.out.below hb2).push (Own.mk' ho2 (Nat.le_refl _))).alloc 28 #[.bool down, .int .i64 first, .slice A2 hs.length c2, .bool key]))
  have B2 := Lib.hid (((B1.out.trans (hb2.mono (by simp; omega))).alloc (by omega) (.cells #[.bool down, .int .i64 first, .slice A2 hs.length c2, .bool key] 28)))
  have HU2 := Lib.hid ((HU1.out.below hb2).alloc (.cells #[.bool down, .int .i64 first, .slice A2 hs.length c2, .bool key] 28))
  clear ho2 hb2 ca cb S1 B1 HU1 HBG
  have ca := S2.out.cell (List.Mem.tail _ (List.Mem.head _))
  have cb := S2.out.cell (List.Mem.tail _ (List.Mem.tail _ (List.Mem.head _)))
  go_wp2_with fail
  refine (HST.out _ B c1 us HPL.out HU2.out).mono ?_
  rintro e w3 ⟨A3, c3, rfl, ho3, hb3⟩
  simp only at ho3 ⊢
  have z3 := hb3.size
  simp only [World.size_alloc] at z3
  have S3 := Lib.hid ((((S2.out.below hb3).push (Own.mk' ho3 (Nat.le_refl _))).alloc 28 #[.bool down, .int .i64 first, .slice A3 hs.length c3, .bool key]))
  have B3 := Lib.hid (((B2.out.trans (hb3.mono (by simp; omega))).alloc (by omega) (.cells #[.bool down, .int .i64 first, .slice A3 hs.length c3, .bool key] 28)))
  have HU3 := Lib.hid ((HU2.out.below hb3).alloc (.cells #[.bool down, .int .i64 first, .slice A3 hs.length c3, .bool key] 28))
  clear ho3 hb3 ca cb S2 B2 HU2
  have ca := S3.out.cell (List.Mem.tail _ (List.Mem.tail _ (List.Mem.head _)))
  have cb := S3.out.cell (List.Mem.tail _ (List.Mem.tail _ (List.Mem.tail _ (List.Mem.head _))))
  go_wp2_with fail
  refine (HST.out _ B c1 us HPL.out HU3.out).mono ?_
  rintro e w4 ⟨A4, c4, rfl, ho4, hb4⟩
  simp only at ho4 ⊢
  have z4 := hb4.size
  simp only [World.size_alloc] at z4
  have S4 := Lib.hid ((((S3.out.below hb4).push (Own.mk' ho4 (Nat.le_refl _))).alloc 28 #[.bool down, .int .i64 first, .slice A4 hs.length c4, .bool key]))
  have B4 := Lib.hid (((B3.out.trans (hb4.mono (by simp; omega))).alloc (by omega) (.cells #[.bool down, .int .i64 first, .slice A4 hs.length c4, .bool key] 28)))
  have HU4 := Lib.hid ((HU3.out.below hb4).alloc (.cells #[.bool down, .int .i64 first, .slice A4 hs.length c4, .bool key] 28))
  clear ho4 hb4 ca cb S3 B3 HU3 HST
  have ks := S4.out.blk
  have k0 := ks _ (List.Mem.head _)
  have k1 := ks _ (List.Mem.tail _ (List.Mem.head _))
  have k2 := ks _ (List.Mem.tail _ (List.Mem.tail _ (List.Mem.head _)))
  have k3 := ks _ (List.Mem.tail _ (List.Mem.tail _ (List.Mem.tail _ (List.Mem.head _))))
  have k4 := ks _ (List.Mem.tail _ (List.Mem.tail _ (List.Mem.tail _ (List.Mem.tail _ (List.Mem.head _)))))
  simp only at k0 k1 k2 k3 k4
  have zW := World.size_alloc w4 (.cells #[.bool down, .int .i64 first, .slice A4 hs.length c4, .bool key] 28)
  clear ks
  go_wp2_with fail
  generalize World.alloc w4 _ = W at *
  have K0 := Lib.hid k0
  have K1 := Lib.hid k1
  have K2 := Lib.hid k2
  have K3 := Lib.hid k3
  have K4 := Lib.hid k4
  have d0 := k0.cell
  have d1 := k1.cell
  have d2 := k2.cell
  have d3 := k3.cell
  have d4 := k4.cell
  have HOWN := Lib.hid S4.out.own
  have ZW := Lib.hid zW
  have hEE : (E != E) = false := by simp
  have hW0 : w.heap.size ≤ W.heap.size := by omega
  have hlm : hs.length ≤ maxLen := by unfold maxLen; omega
  have hnm : n ≤ maxLen := by unfold maxLen; omega
  have R2 := Lib.hid (Rd.own (HOWN.out _ (List.Mem.tail _ (List.Mem.tail _ (List.Mem.head _)))).1)
  have R3 := Lib.hid (Rd.own (HOWN.out _ (List.Mem.tail _ (List.Mem.head _))).1)
  have R4 := Lib.hid (Rd.own (HOWN.out _ (List.Mem.head _)).1)
  have TR : Hid (Below W.heap.size W W) := Below.refl _ _
  have TR0 : Below W.heap.size W W.drew := below_drewN (Below.refl _ _) 1
  clear k0 k1 k2 k3 k4 zW
  go_region_held3 (fun w' => Hid (Below W.heap.size W w') ∧ (∀ i, w'.cell? ⟨w4.heap.size, i, none⟩ = #[.bool down, .int .i64 first, .slice A4 hs.length c4, .bool key][i]?) ∧ (∀ i, w'.cell? ⟨w3.heap.size, i, none⟩ = #[.bool down, .int .i64 first, .slice A3 hs.length c3, .bool key][i]?)
      ∧ (∀ i, w'.cell? ⟨w2.heap.size, i, none⟩ = #[.bool down, .int .i64 first, .slice A2 hs.length c2, .bool key][i]?) ∧ (∀ i, w'.cell? ⟨w1.heap.size, i, none⟩ = #[.int .i64 m, .int .i64 d, .slice B n c1][i]?) ∧ (∀ i, w'.cell? ⟨w.heap.size, i, none⟩ = #[.int .i64 m, .int .i64 d, .slice Q n c][i]?))
    (first | exact ⟨TR5, (K0.out.below TR5.out).cell, (K1.out.below TR5.out).cell, (K2.out.below TR5.out).cell, (K3.out.below TR5.out).cell, (K4.out.below TR5.out).cell⟩ | exact ⟨TR0, d0, d1, d2, d3, d4⟩)
    (first
      | (go_at_call 10; refine (HCK.out _ B c1 us HPL.out (HU4.out.below (Hid.out (by assumption)))).mono ?_; rintro e w5 ⟨rfl, hb5⟩; have TR5 : Hid (Below W.heap.size W w5) := below_step (by assumption) hb5)
      | (go_at_call 11; refine (HGD.out _ (HR.out.below (B4.out.trans (Below.mono (Hid.out (by assumption)) hW0)))).mono ?_; rintro e w5 ⟨rfl, hb5⟩; have TR5 : Hid (Below W.heap.size W w5) := below_step (by assumption) hb5)
      | (go_at_call_of 12 (Value.agg #[.bool down, .int .i64 first, .slice A3 hs.length c3, .bool key]); refine (sameTrip_eq down first A3 A2 hs.length c3 c2 key hs _ (R3.out.below (Hid.out (by assumption))) (R2.out.below (Hid.out (by assumption))) hlm).mono ?_; rintro e w5 ⟨rfl, hb5⟩; have TR5 : Hid (Below W.heap.size W w5) := below_step (by assumption) hb5)
      | (go_at_call_of 12 (Value.agg #[.bool down, .int .i64 first, .slice A4 hs.length c4, .bool key]); refine (sameTrip_eq down first A4 A2 hs.length c4 c2 key hs _ (R4.out.below (Hid.out (by assumption))) (R2.out.below (Hid.out (by assumption))) hlm).mono ?_; rintro e w5 ⟨rfl, hb5⟩; have TR5 : Hid (Below W.heap.size W w5) := below_step (by assumption) hb5)
      | (go_at_call 13; refine (sameGuard_eq m d Q B n c c1 vs us _ (HR.out.below (B4.out.trans (Below.mono (Hid.out (by assumption)) hW0))) (HU4.out.below (Hid.out (by assumption))) HPL.out hnm).mono ?_; rintro e w5 ⟨rfl, hb5⟩; have TR5 : Hid (Below W.heap.size W w5) := below_step (by assumption) hb5))
  have S5 := Lib.hid (S4.out.below TR5.out)
  have B5 := Lib.hid (B4.out.trans (TR5.out.mono hW0))
  have z5 := TR5.out.size
  have zw := ZW.out
  clear d0 d1 d2 d3 d4 TR TR0 hb5 TR5 K0 K1 K2 K3 K4 HOWN R2 R3 R4 S4 B4 HU4 HCK HGD
  have e3 := S5.out.cell (List.Mem.tail _ (List.Mem.head _))
  go_wp2_with fail
  have hr := S5.out.range (List.Mem.tail _ (List.Mem.head _))
  refine (over_any _ A3 hs.length c3 _ _ _ (S5.out.own _ (List.Mem.tail _ (List.Mem.head _))).1 (by simp <;> omega) (by omega)).mono ?_
  rintro e w8 ⟨rfl, hg⟩
  have z8 := hg.size
  have S8 := Lib.hid ((drop_mid S5.out).over hg hr (by simp <;> omega) (by simp <;> omega))
  have B8 := Lib.hid (B5.out.trans (over_below hg hr (by simp <;> omega) (by omega)))
  clear hg hr S5 B5 e3
  have e4 := S8.out.cell (List.Mem.head _)
  have e2 := S8.out.cell (List.Mem.tail _ (List.Mem.tail _ (List.Mem.head _)))
  go_wp2_with fail
  refine (sameTrip_eq down first A4 A2 hs.length c4 c2 key hs _ (S8.out.rd (List.Mem.head _)) (S8.out.rd (List.Mem.tail _ (List.Mem.head _))) hlm).mono ?_
  rintro e w9 ⟨rfl, hb⟩
  have B9 := Lib.hid (B8.out.trans (hb.mono (by omega)))
  clear hb
  go_wp2
  go_ret
  exact ⟨rfl, B9.out⟩
end Go.Proofs.Ytdofkakbfolpkaa.Sf
