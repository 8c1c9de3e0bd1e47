/-
  The walk of the law SafetyStep. Conditions: the arguments read, within the form's own reach.
-/
import Derived.Test.YtdofkakbfolpkaaSg8
import Derived.Test.YtdofkakbfolpkaaSf9
namespace Go.Proofs.Ytdofkakbfolpkaa.Sf
open Go.RowKit Go.Proofs.Ytdofkakbfolpkaa.W Go.Proofs.Ytdofkakbfolpkaa.Ints Go.Proofs.Ytdofkakbfolpkaa.Pop

theorem trip_in {H : Type} {enc : TypeId × Value → H} {w : World} {cs : Array Value} (h : O.Op enc Try.prog w 28 cs.toList) :
    ∃ (down : Bool) (first : Int) (A : Option Addr) (n c : Nat) (key : Bool) (hs : List Int), Value.agg cs = tripV down first A n c key ∧ Rd w 1 A n (ints hs) ∧ n * 8 ≤ 140737488351232 := by
  obtain ⟨hl, hf⟩ := h.struct Try.underlying28
  obtain ⟨l⟩ := cs
  simp only at hl hf
  match l, hl.trans (by kernel_rfl : Try.prog.cellsOf 28 = 4) with
  | [c0, c1, c2, c3], _ =>
    obtain ⟨down, e0⟩ := (hf 0 _ rfl).bool Try.underlying4
    obtain ⟨first, e1, _⟩ := (hf 1 _ rfl).i64 Try.underlying3
    obtain ⟨A, n, c, xs, e2, hnc, hc, hr, _, _⟩ := (hf 2 _ rfl).ints Try.underlying26 Try.underlying3 (by kernel_rfl) (by kernel_rfl)
    obtain ⟨key, e3⟩ := (hf 3 _ rfl).bool Try.underlying4
    have k3 : Try.prog.cellsOf 3 = 1 := by kernel_rfl
    have k4 : Try.prog.cellsOf 4 = 1 := by kernel_rfl
    have k26 : Try.prog.cellsOf 26 = 1 := by kernel_rfl
    simp [k3, k4, k26] at e0 e1 e2 e3
    subst e0 e1 e2 e3
    exact ⟨down, first, A, n, c, key, xs, rfl, hr, by omega⟩
theorem step_len (m d : Int) (ps : List (Int × List Int)) (T : TR) (told : List Int) (key : Bool) : (stepF m d ps T told key).1.held.length ≤ 16 := by
  unfold stepF
  split
  · simp [zeroT]
  · rename_i h1
    have hg : (guardF m d ps).1 = 0 := by simpa using h1
    have hl := (guard_len hg).1
    split
    · simp [zeroT]
    · split
      · simp [zeroT]
      · split
        · simp [zeroT]
        · have h0 : (heldF d told ps T.held).length ≤ 16 := by
            unfold heldF
            rw [List.length_zipWith]
            omega
          unfold nextF
          split
          · exact h0
          · split
            · exact h0
            · exact h0

theorem drop_a {w : World} {Ks : List Box} {a0 a1 a2 a3 a4 : Own} (h : St w Ks [a0, a1, a2, a3, a4]) : St w Ks [a0, a2, a3, a4] :=
  h.keep (fun _ hk => hk) (fun o ho => by simp only [List.mem_cons, List.not_mem_nil, or_false] at ho ⊢; rcases ho with h | h | h | h <;> simp [h])
theorem drop_s {w : World} {Ks : List Box} {a0 a2 a3 a4 : Own} (h : St w Ks [a0, a2, a3, a4]) : St w Ks [a0, a2] :=
  h.keep (fun _ hk => hk) (fun o ho => by simp only [List.mem_cons, List.not_mem_nil, or_false] at ho ⊢; rcases ho with h | h <;> simp [h])

set_option maxRecDepth 100000 in
set_option maxHeartbeats 6400000 in
theorem walk_Step (H : Type) (enc : TypeId × Value → H) (w : World) (cs : Array Value) (ho : O.Op enc Try.prog w 24 cs.toList) (cs1 : Array Value) (ho1 : O.Op enc Try.prog w 28 cs1.toList)
    (Z : Option Addr) (tl z : Nat) (ho2 : O.Op enc Try.prog w 26 [.slice Z tl z]) (key : Bool) :
    Calls Try.prog 4 #[.agg cs, .agg cs1, .slice Z tl z, .bool key] w fun e w' => e = .returned (.bool true) ∧ Below w.heap.size w w' := by
  obtain ⟨m, d, Q, n, c, vs, hcs, hr, hn⟩ := guard_in ho
  obtain ⟨down, first, A, hl, e, tkey, hs, hcs1, ht, ht8⟩ := trip_in ho1
  obtain ⟨Z', tl', z', told, hcs2, _, hz8', hz, _, _⟩ := ho2.ints Try.underlying26 Try.underlying3 (by kernel_rfl) (by kernel_rfl)
  simp only [List.cons.injEq, Value.slice.injEq, and_true] at hcs2
  obtain ⟨rfl, rfl, rfl⟩ := hcs2
  have hz8 : tl * 8 ≤ 140737488351232 := by omega
  rw [hcs, hcs1]
  clear ho ho1 ho2 hcs hcs1
  obtain ⟨i0, hi0, hz0, hz1, hz2⟩ := info_parts int_info
  have hlen := step_len m d (vs.map VD.pl) ⟨down, first, hs, tkey⟩ told key
  have hhl := rd_len ht
  have HBG : Hid (∀ W : World, GRd W Q n vs → Rd W 1 A hl (ints hs) → Rd W 1 Z tl (ints told) → Calls Try.prog 15 #[guardV m d Q n c, tripV down first A hl e tkey, .slice Z tl z, .bool key] W fun x w' => TripT W w' x (stepF m d (vs.map VD.pl) ⟨down, first, hs, tkey⟩ told key)) := fun W h1 h2 h3 => by
    subst hhl
    exact Stepped_any m d Q n c vs ⟨down, first, hs, tkey⟩ A e told Z tl z key W h1 h2 ht8 h3 hz8
  have HST : Hid (∀ (W : World) (B : Option Addr) (c1 : Nat) (us : List VD) (A1 : Option Addr) (e1 : Nat) (Z1 : Option Addr) (z1 : Nat), us.map VD.pl = vs.map VD.pl → GRd W B n us → Rd W 1 A1 hl (ints hs) → Rd W 1 Z1 tl (ints told) → Calls Try.prog 16 #[guardV m d B n c1, tripV down first A1 hl e1 tkey, .slice Z1 tl z1, .bool key] W fun x w' => TripT W w' x (stepF m d (vs.map VD.pl) ⟨down, first, hs, tkey⟩ told key)) := fun W B c1 us A1 e1 Z1 z1 he h1 h2 h3 => by
    subst hhl
    rw [← he]
    exact Step_any m d B n c1 us ⟨down, first, hs, tkey⟩ A1 e1 told Z1 tl z1 key W h1 h2 ht8 h3 hz8
  have HGO : Hid (∀ W : World, GRd W Q n vs → Calls Try.prog 7 #[guardV m d Q n c] W fun e w' => ∃ B c' us, e = .returned (guardV m d B n c') ∧ us.map VD.pl = vs.map VD.pl ∧ GRd w' B n us ∧ Below W.heap.size W w') := fun W h => guardOf_any m d Q n c vs W h hn
  generalize stepF m d (vs.map VD.pl) ⟨down, first, hs, tkey⟩ told key = T at *
  obtain ⟨⟨odown, ofirst, ohs, okey⟩, E⟩ := T
  simp only at hlen
  have HR := Lib.hid hr
  have HA := Lib.hid ht
  have HZ := Lib.hid hz
  have hlm : ohs.length ≤ maxLen := by unfold maxLen; omega
  have hnm : n ≤ maxLen := by unfold maxLen; omega
  have hhm : hl ≤ maxLen := by unfold maxLen; omega
  have htm : tl ≤ maxLen := by unfold maxLen; omega
  have hEE : (E != E) = false := by simp
  clear hr ht hz hhl hz8'
  go_enter Try.func4, Try.ntmps4
  go_wp2_with fail
  refine (HGO.out _ ((HR.out.alloc _).alloc _)).mono ?_
  rintro e' w1 ⟨B, c1, us, rfl, hpl, hu, hb⟩
  have HPL := Lib.hid hpl
  have S1 := Lib.hid (((((St.nil w).alloc 24 #[.int .i64 m, .int .i64 d, .slice Q n c]).alloc 28 #[.bool down, .int .i64 first, .slice A hl e, .bool tkey]).below hb).alloc 24 #[.int .i64 m, .int .i64 d, .slice B n c1] |>.alloc 28 #[.bool down, .int .i64 first, .slice A hl e, .bool tkey])
  have z1 := hb.size
  simp only [World.size_alloc] at z1 S1
  have B1 := Lib.hid (((below2 w _ _).trans (hb.mono (by simp; omega))).trans ((below2 w1 (.cells #[.int .i64 m, .int .i64 d, .slice B n c1] 24) (.cells #[.bool down, .int .i64 first, .slice A hl e, .bool tkey] 28)).mono (by omega)))
  have U1 := Lib.hid (below2 w1 (.cells #[.int .i64 m, .int .i64 d, .slice B n c1] 24) (.cells #[.bool down, .int .i64 first, .slice A hl e, .bool tkey] 28))
  have HU := Lib.hid hu
  have zW1 : ((w1.alloc (.cells #[.int .i64 m, .int .i64 d, .slice B n c1] 24)).alloc (.cells #[.bool down, .int .i64 first, .slice A hl e, .bool tkey] 28)).heap.size = w1.heap.size + 2 := by simp
  have c5 := ((((St.nil w).alloc 24 #[.int .i64 m, .int .i64 d, .slice Q n c]).alloc 28 #[.bool down, .int .i64 first, .slice A hl e, .bool tkey]).below hb).cell (List.Mem.head _)
  simp only [World.size_alloc] at c5
  have hlt1 : w.heap.size + 1 < w1.heap.size := by omega
  have c5b := S1.out.cell (List.Mem.tail _ (List.Mem.tail _ (List.Mem.head _)))
  have hlt0 : w.heap.size < w1.heap.size := by omega
  clear hpl hu hb HGO
  have HAW := Lib.hid (HA.out.below B1.out)
  go_wp2_with (at_builtin; refine wpList_append_rd _ rfl (.const (.slice none 0 0)) (.tmp 22) 26 rfl (w1.heap.size + 2) 3 i0 _ 1 8 Try.underlying26 hi0 hz0 hz1 hz2 rfl (by omega) _ 0 [] rfl (World.ownsRow_nil _ _ _ _) A hl e (ints hs) rfl HAW.out (ones .i64 hs) ?_ ?_ ?_ ?_)
  · unfold maxLen; omega
  · omega
  · simp
  intro v1 w2 ho1 hg1 hat1
  clear hat1
  obtain ⟨A1, d1, rfl, _⟩ := own_shape ho1
  try simp only [Nat.zero_add, List.nil_append] at ho1
  have hb := grow_none (show World.grownBy _ w2 none from hg1)
  have z2 := hb.size
  rw [zW1] at z2
  have S2 := Lib.hid ((S1.out.below hb).push (Own.mk' ho1 (Nat.le_refl _)))
  have S3 := Lib.hid (S2.out.set (i := 2) (u := .slice A1 hl d1) (d := #[.bool down, .int .i64 first, .slice A1 hl d1, .bool tkey]) (by simp; omega) (by
    intro o ho a ha
    have h := (S2.out.range ho a ha).1
    simp only [List.mem_singleton] at ho
    subst ho
    simp only at h ⊢
    omega) rfl)
  have B3 := Lib.hid (((B1.out.trans (hb.mono (by omega))).setCell (p := ⟨w1.heap.size + 1, 2, none⟩) (by simp; omega) (.slice A1 hl d1)))
  have U3 := Lib.hid (((U1.out.trans (hb.mono (by omega))).setCell (p := ⟨w1.heap.size + 1, 2, none⟩) (by simp) (.slice A1 hl d1)))
  have c6 := S2.out.cell (List.Mem.head _)
  have f6 := S2.out.frozen (List.Mem.head _)
  have hl6 : w1.heap.size + 1 < w2.heap.size := by omega
  have HZW := Lib.hid (HZ.out.below B3.out)
  clear ho1 hg1 hb S1 S2 B1 U1 c5 c5b HAW
  go_wp2_with (at_builtin; refine wpList_append_rd _ rfl (.const (.slice none 0 0)) (.tmp 25) 26 rfl w2.heap.size 3 i0 _ 1 8 Try.underlying26 hi0 hz0 hz1 hz2 rfl (by omega) _ 0 [] rfl (World.ownsRow_nil _ _ _ _) Z tl z (ints told) rfl HZW.out (ones .i64 told) ?_ ?_ ?_ ?_)
  · unfold maxLen; omega
  · omega
  · simp
  intro v2 w3 ho2 hg2 hat2
  clear hat2
  obtain ⟨A2, d2, rfl, _⟩ := own_shape ho2
  try simp only [Nat.zero_add, List.nil_append] at ho2
  have hb := grow_none (show World.grownBy _ w3 none from hg2)
  have z3 : w2.heap.size ≤ w3.heap.size := by have := hb.size; simpa using this
  have S4 := Lib.hid ((S3.out.below hb).push (Own.mk' ho2 (Nat.le_refl _)))
  have B4 := Lib.hid (B3.out.trans (hb.mono (by simp; omega)))
  have U4 := Lib.hid (U3.out.trans (hb.mono (by simp; omega)))
  clear ho2 hg2 hb S3 B3 U3 c6 f6 HZW
  have ca := S4.out.cell (List.Mem.head _)
  have cb := S4.out.cell (List.Mem.tail _ (List.Mem.head _))
  have cc := S4.out.cell (List.Mem.tail _ (List.Mem.tail _ (List.Mem.head _)))
  have cd := S4.out.cell (List.Mem.tail _ (List.Mem.tail _ (List.Mem.tail _ (List.Mem.head _))))
  go_wp2_with fail
  refine (HBG.out _ (HR.out.below B4.out) (HA.out.below B4.out) (HZ.out.below B4.out)).mono ?_
  rintro e' w4 ⟨A5, c5, rfl, ho5, hb⟩
  simp only at ho5 ⊢
  have z4 := hb.size
  have S5 := Lib.hid ((((S4.out.below hb).push (Own.mk' ho5 (Nat.le_refl _))).alloc 28 #[.bool odown, .int .i64 ofirst, .slice A5 ohs.length c5, .bool okey]))
  have B5 := Lib.hid (((B4.out.trans (hb.mono (by omega))).alloc (by omega) (.cells #[.bool odown, .int .i64 ofirst, .slice A5 ohs.length c5, .bool okey] 28)))
  have U5 := Lib.hid (((U4.out.trans (hb.mono (by omega))).alloc (by omega) (.cells #[.bool odown, .int .i64 ofirst, .slice A5 ohs.length c5, .bool okey] 28)))
  clear ho5 hb ca cb cc cd S4 B4 U4 HBG
  have cc := S5.out.cell (List.Mem.tail _ (List.Mem.head _))
  have cd := S5.out.cell (List.Mem.tail _ (List.Mem.tail _ (List.Mem.head _)))
  go_wp2_with fail
  refine (HST.out _ B c1 us A1 d1 A2 d2 HPL.out (HU.out.below U5.out) (S5.out.rd (List.Mem.tail _ (List.Mem.tail _ (List.Mem.head _)))) (S5.out.rd (List.Mem.tail _ (List.Mem.head _)))).mono ?_
  rintro e' w5 ⟨A6, c6, rfl, ho6, hb⟩
  simp only at ho6 ⊢
  have z5 := hb.size
  simp only [World.size_alloc] at z5
  have S6 := Lib.hid ((((S5.out.below hb).push (Own.mk' ho6 (Nat.le_refl _))).alloc 28 #[.bool odown, .int .i64 ofirst, .slice A6 ohs.length c6, .bool okey]))
  have B6 := Lib.hid (((B5.out.trans (hb.mono (by simp; omega))).alloc (by omega) (.cells #[.bool odown, .int .i64 ofirst, .slice A6 ohs.length c6, .bool okey] 28)))
  have U6 := Lib.hid (((U5.out.trans (hb.mono (by simp; omega))).alloc (by omega) (.cells #[.bool odown, .int .i64 ofirst, .slice A6 ohs.length c6, .bool okey] 28)))
  clear ho6 hb cc cd S5 B5 U5
  have cc := S6.out.cell (List.Mem.tail _ (List.Mem.tail _ (List.Mem.head _)))
  have cd := S6.out.cell (List.Mem.tail _ (List.Mem.tail _ (List.Mem.tail _ (List.Mem.head _))))
  go_wp2_with fail
  refine (HST.out _ B c1 us A1 d1 A2 d2 HPL.out (HU.out.below U6.out) (S6.out.rd (List.Mem.tail _ (List.Mem.tail _ (List.Mem.tail _ (List.Mem.head _))))) (S6.out.rd (List.Mem.tail _ (List.Mem.tail _ (List.Mem.head _))))).mono ?_
  rintro e' w6 ⟨A7, c7, rfl, ho7, hb⟩
  simp only at ho7 ⊢
  have z6 := hb.size
  simp only [World.size_alloc] at z6
  have S7 := Lib.hid ((((S6.out.below hb).push (Own.mk' ho7 (Nat.le_refl _))).alloc 28 #[.bool odown, .int .i64 ofirst, .slice A7 ohs.length c7, .bool okey]))
  have B7 := Lib.hid (((B6.out.trans (hb.mono (by simp; omega))).alloc (by omega) (.cells #[.bool odown, .int .i64 ofirst, .slice A7 ohs.length c7, .bool okey] 28)))
  have U7 := Lib.hid (((U6.out.trans (hb.mono (by simp; omega))).alloc (by omega) (.cells #[.bool odown, .int .i64 ofirst, .slice A7 ohs.length c7, .bool okey] 28)))
  clear ho7 hb cc cd S6 B6 U6
  clear HST
  have zz7 := World.size_alloc w6 (.cells #[.bool odown, .int .i64 ofirst, .slice A7 ohs.length c7, .bool okey] 28)
  have q0 := S7.out.cell (List.Mem.head _)
  have q1 := S7.out.cell (List.Mem.tail _ (List.Mem.head _))
  have q2 := S7.out.cell (List.Mem.tail _ (List.Mem.tail _ (List.Mem.head _)))
  have q3 := S7.out.cell (List.Mem.tail _ (List.Mem.tail _ (List.Mem.tail _ (List.Mem.head _))))
  have q4 := S7.out.cell (List.Mem.tail _ (List.Mem.tail _ (List.Mem.tail _ (List.Mem.tail _ (List.Mem.head _)))))
  have q5 := S7.out.cell (List.Mem.tail _ (List.Mem.tail _ (List.Mem.tail _ (List.Mem.tail _ (List.Mem.tail _ (List.Mem.head _))))))
  have q6 := S7.out.cell (List.Mem.tail _ (List.Mem.tail _ (List.Mem.tail _ (List.Mem.tail _ (List.Mem.tail _ (List.Mem.tail _ (List.Mem.head _)))))))
  go_wp2_with fail
  refine (sameTrip_eq odown ofirst A6 A5 ohs.length c6 c5 okey ohs _ (S7.out.rd (List.Mem.tail _ (List.Mem.head _))) (S7.out.rd (List.Mem.tail _ (List.Mem.tail _ (List.Mem.head _)))) hlm).mono ?_
  rintro e' w8 ⟨rfl, hb⟩
  have S8 := Lib.hid (S7.out.below hb)
  have z8 := hb.size
  have B8 := Lib.hid (B7.out.trans (hb.mono (by first | omega | (simp; omega))))
  have U8 := Lib.hid (U7.out.trans (hb.mono (by first | omega | (simp; omega))))
  clear hb S7 B7 U7 q0 q1 q2 q3 q4 q5 q6
  have q0 := S8.out.cell (List.Mem.head _)
  have q1 := S8.out.cell (List.Mem.tail _ (List.Mem.head _))
  have q2 := S8.out.cell (List.Mem.tail _ (List.Mem.tail _ (List.Mem.head _)))
  have q3 := S8.out.cell (List.Mem.tail _ (List.Mem.tail _ (List.Mem.tail _ (List.Mem.head _))))
  have q4 := S8.out.cell (List.Mem.tail _ (List.Mem.tail _ (List.Mem.tail _ (List.Mem.tail _ (List.Mem.head _)))))
  have q5 := S8.out.cell (List.Mem.tail _ (List.Mem.tail _ (List.Mem.tail _ (List.Mem.tail _ (List.Mem.tail _ (List.Mem.head _))))))
  have q6 := S8.out.cell (List.Mem.tail _ (List.Mem.tail _ (List.Mem.tail _ (List.Mem.tail _ (List.Mem.tail _ (List.Mem.tail _ (List.Mem.head _)))))))
  go_wp2_with fail
  refine (sameTrip_eq odown ofirst A7 A5 ohs.length c7 c5 okey ohs _ (S8.out.rd (List.Mem.head _)) (S8.out.rd (List.Mem.tail _ (List.Mem.tail _ (List.Mem.head _)))) hlm).mono ?_
  rintro e' w9 ⟨rfl, hb⟩
  have S9 := Lib.hid (S8.out.below hb)
  have z9 := hb.size
  have B9 := Lib.hid (B8.out.trans (hb.mono (by first | omega | (simp; omega))))
  have U9 := Lib.hid (U8.out.trans (hb.mono (by first | omega | (simp; omega))))
  clear hb S8 B8 U8 q0 q1 q2 q3 q4 q5 q6
  have q0 := S9.out.cell (List.Mem.head _)
  have q1 := S9.out.cell (List.Mem.tail _ (List.Mem.head _))
  have q2 := S9.out.cell (List.Mem.tail _ (List.Mem.tail _ (List.Mem.head _)))
  have q3 := S9.out.cell (List.Mem.tail _ (List.Mem.tail _ (List.Mem.tail _ (List.Mem.head _))))
  have q4 := S9.out.cell (List.Mem.tail _ (List.Mem.tail _ (List.Mem.tail _ (List.Mem.tail _ (List.Mem.head _)))))
  have q5 := S9.out.cell (List.Mem.tail _ (List.Mem.tail _ (List.Mem.tail _ (List.Mem.tail _ (List.Mem.tail _ (List.Mem.head _))))))
  have q6 := S9.out.cell (List.Mem.tail _ (List.Mem.tail _ (List.Mem.tail _ (List.Mem.tail _ (List.Mem.tail _ (List.Mem.tail _ (List.Mem.head _)))))))
  go_wp2_with fail
  refine (sameGuard_eq m d Q B n c c1 vs us _ (HR.out.below B9.out) (HU.out.below U9.out) HPL.out hnm).mono ?_
  rintro e' w10 ⟨rfl, hb⟩
  have S10 := Lib.hid (S9.out.below hb)
  have z10 := hb.size
  have B10 := Lib.hid (B9.out.trans (hb.mono (by first | omega | (simp; omega))))
  have U10 := Lib.hid (U9.out.trans (hb.mono (by first | omega | (simp; omega))))
  clear hb S9 B9 U9 q0 q1 q2 q3 q4 q5 q6
  have q0 := S10.out.cell (List.Mem.head _)
  have q1 := S10.out.cell (List.Mem.tail _ (List.Mem.head _))
  have q2 := S10.out.cell (List.Mem.tail _ (List.Mem.tail _ (List.Mem.head _)))
  have q3 := S10.out.cell (List.Mem.tail _ (List.Mem.tail _ (List.Mem.tail _ (List.Mem.head _))))
  have q4 := S10.out.cell (List.Mem.tail _ (List.Mem.tail _ (List.Mem.tail _ (List.Mem.tail _ (List.Mem.head _)))))
  have q5 := S10.out.cell (List.Mem.tail _ (List.Mem.tail _ (List.Mem.tail _ (List.Mem.tail _ (List.Mem.tail _ (List.Mem.head _))))))
  have q6 := S10.out.cell (List.Mem.tail _ (List.Mem.tail _ (List.Mem.tail _ (List.Mem.tail _ (List.Mem.tail _ (List.Mem.tail _ (List.Mem.head _)))))))
  go_wp2_with fail
  refine (sameTrip_eq down first A1 A hl d1 e tkey hs _ (S10.out.rd (List.Mem.tail _ (List.Mem.tail _ (List.Mem.tail _ (List.Mem.tail _ (List.Mem.head _)))))) (HA.out.below B10.out) hhm).mono ?_
  rintro e' w11 ⟨rfl, hb⟩
  have S11 := Lib.hid (S10.out.below hb)
  have z11 := hb.size
  have B11 := Lib.hid (B10.out.trans (hb.mono (by first | omega | (simp; omega))))
  have U11 := Lib.hid (U10.out.trans (hb.mono (by first | omega | (simp; omega))))
  clear hb S10 B10 U10 q0 q1 q2 q3 q4 q5 q6
  have q0 := S11.out.cell (List.Mem.head _)
  have q1 := S11.out.cell (List.Mem.tail _ (List.Mem.head _))
  have q2 := S11.out.cell (List.Mem.tail _ (List.Mem.tail _ (List.Mem.head _)))
  have q3 := S11.out.cell (List.Mem.tail _ (List.Mem.tail _ (List.Mem.tail _ (List.Mem.head _))))
  have q4 := S11.out.cell (List.Mem.tail _ (List.Mem.tail _ (List.Mem.tail _ (List.Mem.tail _ (List.Mem.head _)))))
  have q5 := S11.out.cell (List.Mem.tail _ (List.Mem.tail _ (List.Mem.tail _ (List.Mem.tail _ (List.Mem.tail _ (List.Mem.head _))))))
  have q6 := S11.out.cell (List.Mem.tail _ (List.Mem.tail _ (List.Mem.tail _ (List.Mem.tail _ (List.Mem.tail _ (List.Mem.tail _ (List.Mem.head _)))))))
  go_wp2_with fail
  refine (sameInts_any A2 Z tl tl d2 z told told _ (S11.out.rd (List.Mem.tail _ (List.Mem.tail _ (List.Mem.tail _ (List.Mem.head _))))) (HZ.out.below B11.out) htm).mono ?_
  rintro e' w12 ⟨rfl, qq, rfl⟩
  rw [show decide (told = told) = true from by simp]
  have S12 := Lib.hid (S11.out.drewN qq)
  have B12 := Lib.hid (below_drewN B11.out qq)
  clear S11 B11 U11 q0 q1 q2 q3 q4 q5 q6 HU HR HA HZ
  have z12 : w11.heap.size = (w11.drewN qq).heap.size := rfl
  generalize w11.drewN qq = w12 at *
  have q0 := S12.out.cell (List.Mem.head _)
  have q1 := S12.out.cell (List.Mem.tail _ (List.Mem.head _))
  have q2 := S12.out.cell (List.Mem.tail _ (List.Mem.tail _ (List.Mem.head _)))
  have q3 := S12.out.cell (List.Mem.tail _ (List.Mem.tail _ (List.Mem.tail _ (List.Mem.head _))))
  have q4 := S12.out.cell (List.Mem.tail _ (List.Mem.tail _ (List.Mem.tail _ (List.Mem.tail _ (List.Mem.head _)))))
  have q5 := S12.out.cell (List.Mem.tail _ (List.Mem.tail _ (List.Mem.tail _ (List.Mem.tail _ (List.Mem.tail _ (List.Mem.head _))))))
  have q6 := S12.out.cell (List.Mem.tail _ (List.Mem.tail _ (List.Mem.tail _ (List.Mem.tail _ (List.Mem.tail _ (List.Mem.tail _ (List.Mem.head _)))))))
  go_wp2_with fail
  have hr := S12.out.range (List.Mem.tail _ (List.Mem.head _))
  refine (over_any _ A6 ohs.length c6 _ _ _ (S12.out.own _ (List.Mem.tail _ (List.Mem.head _))).1 (by simp <;> omega) (by omega)).mono ?_
  rintro e' w13 ⟨rfl, hg⟩
  have z13 := hg.size
  have S13 := Lib.hid ((drop_a S12.out).over hg hr (by simp <;> omega) (by simp <;> omega))
  have B13 := Lib.hid (B12.out.trans (over_below hg hr (by simp <;> omega) (by omega)))
  clear hg hr S12 B12 q0 q1 q2 q3 q4 q5 q6
  have q0 := S13.out.cell (List.Mem.head _)
  have q1 := S13.out.cell (List.Mem.tail _ (List.Mem.head _))
  have q2 := S13.out.cell (List.Mem.tail _ (List.Mem.tail _ (List.Mem.head _)))
  have q3 := S13.out.cell (List.Mem.tail _ (List.Mem.tail _ (List.Mem.tail _ (List.Mem.head _))))
  have q4 := S13.out.cell (List.Mem.tail _ (List.Mem.tail _ (List.Mem.tail _ (List.Mem.tail _ (List.Mem.head _)))))
  have q5 := S13.out.cell (List.Mem.tail _ (List.Mem.tail _ (List.Mem.tail _ (List.Mem.tail _ (List.Mem.tail _ (List.Mem.head _))))))
  have q6 := S13.out.cell (List.Mem.tail _ (List.Mem.tail _ (List.Mem.tail _ (List.Mem.tail _ (List.Mem.tail _ (List.Mem.tail _ (List.Mem.head _)))))))
  go_wp2_with fail
  have hr := S13.out.range (List.Mem.tail _ (List.Mem.tail _ (List.Mem.tail _ (List.Mem.head _))))
  refine (over_any _ A1 hl d1 _ _ _ (S13.out.own _ (List.Mem.tail _ (List.Mem.tail _ (List.Mem.tail _ (List.Mem.head _))))).1 (by simp <;> omega) (by omega)).mono ?_
  rintro e' w14 ⟨rfl, hg⟩
  have z14 := hg.size
  have S14 := Lib.hid ((drop_s S13.out).over hg hr (by simp <;> omega) (by simp <;> omega))
  have B14 := Lib.hid (B13.out.trans (over_below hg hr (by simp <;> omega) (by omega)))
  clear hg hr S13 B13 q0 q1 q2 q3 q4 q5 q6
  have q0 := S14.out.cell (List.Mem.head _)
  have q1 := S14.out.cell (List.Mem.tail _ (List.Mem.head _))
  have q2 := S14.out.cell (List.Mem.tail _ (List.Mem.tail _ (List.Mem.head _)))
  have q3 := S14.out.cell (List.Mem.tail _ (List.Mem.tail _ (List.Mem.tail _ (List.Mem.head _))))
  have q4 := S14.out.cell (List.Mem.tail _ (List.Mem.tail _ (List.Mem.tail _ (List.Mem.tail _ (List.Mem.head _)))))
  have q5 := S14.out.cell (List.Mem.tail _ (List.Mem.tail _ (List.Mem.tail _ (List.Mem.tail _ (List.Mem.tail _ (List.Mem.head _))))))
  have q6 := S14.out.cell (List.Mem.tail _ (List.Mem.tail _ (List.Mem.tail _ (List.Mem.tail _ (List.Mem.tail _ (List.Mem.tail _ (List.Mem.head _)))))))
  go_wp2_with fail
  refine (sameTrip_eq odown ofirst A7 A5 ohs.length c7 c5 okey ohs _ (S14.out.rd (List.Mem.head _)) (S14.out.rd (List.Mem.tail _ (List.Mem.head _))) hlm).mono ?_
  rintro e' w15 ⟨rfl, hb⟩
  have B15 := Lib.hid (B14.out.trans (hb.mono (by omega)))
  clear hb
  go_wp2
  go_ret
  exact ⟨rfl, B15.out⟩
end Go.Proofs.Ytdofkakbfolpkaa.Sf
