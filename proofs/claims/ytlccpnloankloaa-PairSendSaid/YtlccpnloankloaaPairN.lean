/-
  The walk of the law PairSend. Conditions: the argument reads, within the form's own reach.
-/
import Derived.Test.YtlccpnloankloaaPairM
namespace Go.Proofs.Ytlccpnloankloaa.Pair
open Go.RowKit Go.Proofs.Ytlccpnloankloaa.W Go.Proofs.Ytlccpnloankloaa.Ints

theorem sent_meets {w : World} (me : Int) (act : Bool) (term cyc : Int) (A : Option Addr) (n c : Nat) (sil pat : Int) (zs : List Int) (h : Rd w 1 A n (ints zs)) (hn : n * 8 ≤ 140737488351232) :
    ∃ D dw, (sentF nilS (⟨me, act, term, cyc, .slice A n c, sil, pat⟩ : SD Value) n).1.val = beatV (sentF [] (⟨me, act, term, cyc, zs, sil, pat⟩ : SD (List Int)) n).1.me (sentF [] (⟨me, act, term, cyc, zs, sil, pat⟩ : SD (List Int)) n).1.term (sentF [] (⟨me, act, term, cyc, zs, sil, pat⟩ : SD (List Int)) n).1.cyc (.slice D (sentF [] (⟨me, act, term, cyc, zs, sil, pat⟩ : SD (List Int)) n).1.img.length dw) ∧
      (sentF nilS (⟨me, act, term, cyc, .slice A n c, sil, pat⟩ : SD Value) n).2 = (sentF [] (⟨me, act, term, cyc, zs, sil, pat⟩ : SD (List Int)) n).2 ∧ Rd w 1 D (sentF [] (⟨me, act, term, cyc, zs, sil, pat⟩ : SD (List Int)) n).1.img.length (ints (sentF [] (⟨me, act, term, cyc, zs, sil, pat⟩ : SD (List Int)) n).1.img) ∧
      (sentF [] (⟨me, act, term, cyc, zs, sil, pat⟩ : SD (List Int)) n).1.img.length * 8 ≤ 140737488351232 := by
  have hl := rd_len h
  subst hl
  cases hs : standB me act term cyc zs.length sil pat <;> cases act <;> simp only [sentF, SD.ok, hs, if_true, Bool.false_eq_true, if_false]
  all_goals first | exact ⟨none, 0, rfl, trivial, Rd.nil _ _ _, by simp [zeroB]⟩ | exact ⟨A, c, rfl, trivial, h, hn⟩

set_option maxHeartbeats 6400000 in
theorem walk_Send (H : Type) (enc : TypeId × Value → H) (w : World) (cs0 : Array Value) (hin : O.Op enc Try.prog w 25 cs0.toList) :
    Calls Try.prog 5 #[.agg cs0] w fun e w' => e = .returned (.bool true) ∧ Below w.heap.size w w' := by
  obtain ⟨i0, hi0, hz0, hz1, hz2⟩ := info_parts int_info
  obtain ⟨me, act, term, cyc, A, n, c, sil, pat, zs, e, hr, hn⟩ := side_in hin
  rw [e]
  obtain ⟨D, dw, hv, h2, hd, hl⟩ := sent_meets (w := w) me act term cyc A n c sil pat zs hr hn
  generalize hF : sentF [] (⟨me, act, term, cyc, zs, sil, pat⟩ : SD (List Int)) n = F at *
  have l1 : F.1.img.length ≤ maxLen := by unfold maxLen; omega
  have l2 : n ≤ maxLen := by unfold maxLen; omega
  have HF := Lib.hid hF
  have HR := Lib.hid hr
  have HV := Lib.hid hv
  have H2 := Lib.hid h2
  have HD := Lib.hid hd
  clear e hin hr hv h2 hd hF
  go_enter Try.func5, Try.ntmps5
  go_wp2_with fail
  refine (Sent_any me act term cyc A n c sil pat _).mono ?_
  rintro e w1 ⟨rfl, hb⟩
  rw [HV.out, H2.out]
  have S0 := ((St.nil w).alloc _ _).below hb
  obtain ⟨k1, hb, hz1'⟩ := call1 hb
  have S0' := Lib.hid S0
  have cs := k1.cell
  have fs := k1.frozen
  have B0 := Lib.hid hb
  clear k1 hb S0
  go_wp2_with (at_builtin; refine wpList_append_rd _ rfl (.const nilS) (.tmp 17) 23 rfl (w1.heap.size + 2) 3 i0 _ 1 8 Try.underlying23 hi0 hz0 hz1 hz2 rfl (by omega) _ 0 [] rfl (World.ownsRow_nil _ _ _ _) A n c (ints zs) rfl (((HR.out.below B0.out).alloc _).alloc _) (ones _ _) ?_ ?_ ?_ ?_)
  · unfold maxLen; omega
  · omega
  · simp
  intro v1 w2 ho1 hg1 hat1
  clear hat1
  obtain ⟨A1, d1, rfl, _⟩ := own_shape ho1
  try simp only [Nat.zero_add, List.nil_append] at ho1
  have hb := grow_none (show World.grownBy _ w2 none from hg1)
  have z2 : w1.heap.size + 1 < w2.heap.size := by have := hb.size; simp at this; omega
  have S1 := Lib.hid ((((S0'.out.alloc _ _).alloc _ _).below hb).push (Own.mk' ho1 (Nat.le_refl _)))
  have B1 := Lib.hid (((B0.out.alloc (by omega) _).alloc (by simp <;> omega) _).trans (hb.mono (by simp <;> omega)))
  simp only [World.size_alloc] at S1
  clear ho1 hg1 hb
  clear cs fs
  clear S0' B0
  have ch := S1.out.cell (List.Mem.head _)
  have fh := S1.out.frozen (List.Mem.head _)
  have cw := S1.out.cell (List.Mem.tail _ (List.Mem.head _))
  have fw := S1.out.frozen (List.Mem.tail _ (List.Mem.head _))
  have cs := S1.out.cell (List.Mem.tail _ (List.Mem.tail _ (List.Mem.head _)))
  have fs := S1.out.frozen (List.Mem.tail _ (List.Mem.tail _ (List.Mem.head _)))
  go_wp2_with fail
  have S1' := (S1.out.set (i := 4) (u := .slice A1 n d1) (by simp <;> omega) (by simp only [List.mem_singleton, forall_eq]; intro a ha; have := S1.out.range (List.Mem.head _) a ha; simp only at this; omega) rfl)
  have hsend := Send_any me act term cyc A1 n d1 sil pat zs (w2.setCell ⟨w1.heap.size + 1, 4, none⟩ (.slice A1 n d1)) (S1'.rd (List.Mem.head _)) hn
  rw [HF.out] at hsend
  refine hsend.mono ?_
  clear hsend
  rintro e w3 ⟨A3, d3, rfl, ho3, hb⟩
  have z3 : w2.heap.size ≤ w3.heap.size := by have := hb.size; simpa using this
  have S2 := Lib.hid ((S1'.below hb).push (Own.mk' (own_lift (b' := w2.heap.size) ho3 (by simp)) (Nat.le_refl _)))
  have B2 := Lib.hid ((B1.out.setCell (p := ⟨w1.heap.size + 1, 4, none⟩) (by simp <;> omega) (.slice A1 n d1)).trans (hb.mono (by simp <;> omega)))
  have z30 : w1.heap.size + 1 < w3.heap.size := by omega
  have z31 : w1.heap.size < w3.heap.size := by omega
  have z32 : w.heap.size < w3.heap.size := by omega
  clear S1' ho3 hb
  clear ch fh cw fw cs fs
  clear S1 B1
  have ch := S2.out.cell (List.Mem.head _)
  have fh := S2.out.frozen (List.Mem.head _)
  have cw := S2.out.cell (List.Mem.tail _ (List.Mem.head _))
  have fw := S2.out.frozen (List.Mem.tail _ (List.Mem.head _))
  have cs := S2.out.cell (List.Mem.tail _ (List.Mem.tail _ (List.Mem.head _)))
  have fs := S2.out.frozen (List.Mem.tail _ (List.Mem.tail _ (List.Mem.head _)))
  go_wp2_with fail
  have hsend := Send_any me act term cyc A1 n d1 sil pat zs (w3.alloc (.cells #[.int .i64 F.1.me, .int .i64 F.1.term, .int .i64 F.1.cyc, .slice A3 F.1.img.length d3] 33)) ((S2.out.rd (List.Mem.tail _ (List.Mem.head _))).alloc _) hn
  rw [HF.out] at hsend
  refine hsend.mono ?_
  clear hsend
  rintro e w4 ⟨A4, d4, rfl, ho4, hb⟩
  have z4 : w3.heap.size < w4.heap.size := by have := hb.size; simp only [World.size_alloc] at this; omega
  have S3 := Lib.hid (((S2.out.alloc _ _).below hb).push (Own.mk' (own_lift (b' := w3.heap.size + 1) ho4 (by simp)) (Nat.le_refl _)))
  have B3 := Lib.hid ((B2.out.alloc (by omega) _).trans (hb.mono (by simp <;> omega)))
  have z40 : w1.heap.size + 1 < w4.heap.size := by omega
  have z41 : w1.heap.size < w4.heap.size := by omega
  have z42 : w.heap.size < w4.heap.size := by omega
  clear ho4 hb z30 z31 z32
  clear ch fh cw fw cs fs
  clear S2 B2
  have ca := S3.out.cell (List.Mem.head _)
  have fa := S3.out.frozen (List.Mem.head _)
  have ch := S3.out.cell (List.Mem.tail _ (List.Mem.head _))
  have fh := S3.out.frozen (List.Mem.tail _ (List.Mem.head _))
  have cw := S3.out.cell (List.Mem.tail _ (List.Mem.tail _ (List.Mem.head _)))
  have fw := S3.out.frozen (List.Mem.tail _ (List.Mem.tail _ (List.Mem.head _)))
  have cs := S3.out.cell (List.Mem.tail _ (List.Mem.tail _ (List.Mem.tail _ (List.Mem.head _))))
  have fs := S3.out.frozen (List.Mem.tail _ (List.Mem.tail _ (List.Mem.tail _ (List.Mem.head _))))
  go_wp2_with fail
  refine (sameBeat_eq _ _ _ A3 D _ _ _ F.1.img _ ((S3.out.rd (List.Mem.tail _ (List.Mem.head _))).alloc _) ((HD.out.below B3.out).alloc _) l1).mono ?_
  rintro e w5 ⟨rfl, hb⟩
  have z5 := hb.size
  simp only [World.size_alloc] at z5
  have S4 := Lib.hid ((S3.out.alloc _ _).below hb)
  have B4 := Lib.hid ((B3.out.alloc (by omega) _).trans (hb.mono (by simp <;> omega)))
  clear hb z40 z41 z42
  clear ca fa ch fh cw fw cs fs
  clear S3 B3
  have cb := S4.out.cell (List.Mem.head _)
  have fb := S4.out.frozen (List.Mem.head _)
  have ca := S4.out.cell (List.Mem.tail _ (List.Mem.head _))
  have fa := S4.out.frozen (List.Mem.tail _ (List.Mem.head _))
  have ch := S4.out.cell (List.Mem.tail _ (List.Mem.tail _ (List.Mem.head _)))
  have fh := S4.out.frozen (List.Mem.tail _ (List.Mem.tail _ (List.Mem.head _)))
  have cw := S4.out.cell (List.Mem.tail _ (List.Mem.tail _ (List.Mem.tail _ (List.Mem.head _))))
  have fw := S4.out.frozen (List.Mem.tail _ (List.Mem.tail _ (List.Mem.tail _ (List.Mem.head _))))
  have cs := S4.out.cell (List.Mem.tail _ (List.Mem.tail _ (List.Mem.tail _ (List.Mem.tail _ (List.Mem.head _)))))
  have fs := S4.out.frozen (List.Mem.tail _ (List.Mem.tail _ (List.Mem.tail _ (List.Mem.tail _ (List.Mem.head _)))))
  go_wp2_with fail
  refine (sameBeat_eq _ _ _ A4 D _ _ _ F.1.img _ (S4.out.rd (List.Mem.head _)) (HD.out.below B4.out) l1).mono ?_
  rintro e w6 ⟨rfl, hb⟩
  have z6 := hb.size
  have S5 := Lib.hid (S4.out.below hb)
  have B5 := Lib.hid (B4.out.trans (hb.mono (by omega)))
  clear hb
  clear cb fb ca fa ch fh cw fw cs fs
  clear S4 B4
  have cb := S5.out.cell (List.Mem.head _)
  have fb := S5.out.frozen (List.Mem.head _)
  have ca := S5.out.cell (List.Mem.tail _ (List.Mem.head _))
  have fa := S5.out.frozen (List.Mem.tail _ (List.Mem.head _))
  have ch := S5.out.cell (List.Mem.tail _ (List.Mem.tail _ (List.Mem.head _)))
  have fh := S5.out.frozen (List.Mem.tail _ (List.Mem.tail _ (List.Mem.head _)))
  have cw := S5.out.cell (List.Mem.tail _ (List.Mem.tail _ (List.Mem.tail _ (List.Mem.head _))))
  have fw := S5.out.frozen (List.Mem.tail _ (List.Mem.tail _ (List.Mem.tail _ (List.Mem.head _))))
  have cs := S5.out.cell (List.Mem.tail _ (List.Mem.tail _ (List.Mem.tail _ (List.Mem.tail _ (List.Mem.head _)))))
  have fs := S5.out.frozen (List.Mem.tail _ (List.Mem.tail _ (List.Mem.tail _ (List.Mem.tail _ (List.Mem.head _)))))
  go_wp2_with fail
  refine (sameSide_eq _ _ _ _ A1 A _ _ _ _ _ zs _ (S5.out.rd (List.Mem.tail _ (List.Mem.tail _ (List.Mem.head _)))) (HR.out.below B5.out) l2).mono ?_
  rintro e w7 ⟨rfl, hb⟩
  have z7 := hb.size
  have S6 := Lib.hid (S5.out.below hb)
  have B6 := Lib.hid (B5.out.trans (hb.mono (by omega)))
  clear hb
  clear cb fb ca fa ch fh cw fw cs fs
  clear S5 B5
  have cb := S6.out.cell (List.Mem.head _)
  have fb := S6.out.frozen (List.Mem.head _)
  have ca := S6.out.cell (List.Mem.tail _ (List.Mem.head _))
  have fa := S6.out.frozen (List.Mem.tail _ (List.Mem.head _))
  have ch := S6.out.cell (List.Mem.tail _ (List.Mem.tail _ (List.Mem.head _)))
  have fh := S6.out.frozen (List.Mem.tail _ (List.Mem.tail _ (List.Mem.head _)))
  have cw := S6.out.cell (List.Mem.tail _ (List.Mem.tail _ (List.Mem.tail _ (List.Mem.head _))))
  have fw := S6.out.frozen (List.Mem.tail _ (List.Mem.tail _ (List.Mem.tail _ (List.Mem.head _))))
  have cs := S6.out.cell (List.Mem.tail _ (List.Mem.tail _ (List.Mem.tail _ (List.Mem.tail _ (List.Mem.head _)))))
  have fs := S6.out.frozen (List.Mem.tail _ (List.Mem.tail _ (List.Mem.tail _ (List.Mem.tail _ (List.Mem.head _)))))
  go_wp2_with fail
  have hr := S6.out.range (List.Mem.tail _ (List.Mem.head _))
  refine (over_any _ A3 F.1.img.length d3 _ _ _ (S6.out.own _ (List.Mem.tail _ (List.Mem.head _))).1 (by simp only; omega) (by omega)).mono ?_
  rintro e w8 ⟨rfl, hg⟩
  have z8 := hg.size
  have S7 := Lib.hid ((S6.out.keep (Os' := [_, _]) (fun _ hk => hk) (by intro o ho; simp only [List.mem_cons, List.not_mem_nil, or_false] at ho; rcases ho with rfl | rfl; exact List.Mem.head _; exact List.Mem.tail _ (List.Mem.tail _ (List.Mem.head _)))).over hg hr (by simp <;> omega) (by simp <;> omega))
  have B7 := Lib.hid (B6.out.trans (over_below hg hr (by simp only; omega) (by omega)))
  clear hg hr
  clear cb fb ca fa ch fh cw fw cs fs
  clear S6 B6
  have cb := S7.out.cell (List.Mem.head _)
  have fb := S7.out.frozen (List.Mem.head _)
  have ca := S7.out.cell (List.Mem.tail _ (List.Mem.head _))
  have fa := S7.out.frozen (List.Mem.tail _ (List.Mem.head _))
  have ch := S7.out.cell (List.Mem.tail _ (List.Mem.tail _ (List.Mem.head _)))
  have fh := S7.out.frozen (List.Mem.tail _ (List.Mem.tail _ (List.Mem.head _)))
  have cw := S7.out.cell (List.Mem.tail _ (List.Mem.tail _ (List.Mem.tail _ (List.Mem.head _))))
  have fw := S7.out.frozen (List.Mem.tail _ (List.Mem.tail _ (List.Mem.tail _ (List.Mem.head _))))
  have cs := S7.out.cell (List.Mem.tail _ (List.Mem.tail _ (List.Mem.tail _ (List.Mem.tail _ (List.Mem.head _)))))
  have fs := S7.out.frozen (List.Mem.tail _ (List.Mem.tail _ (List.Mem.tail _ (List.Mem.tail _ (List.Mem.head _)))))
  go_wp2_with fail
  have hr := S7.out.range (List.Mem.tail _ (List.Mem.head _))
  refine (over_any _ A1 n d1 _ _ _ (S7.out.own _ (List.Mem.tail _ (List.Mem.head _))).1 (by simp only; omega) (by omega)).mono ?_
  rintro e w9 ⟨rfl, hg⟩
  have z9 := hg.size
  have S8 := Lib.hid ((S7.out.keep (Os' := [_]) (fun _ hk => hk) (by intro o ho; simp only [List.mem_cons, List.not_mem_nil, or_false] at ho; rcases ho with rfl; exact List.Mem.head _)).over hg hr (by simp <;> omega) (by simp <;> omega))
  have B8 := Lib.hid (B7.out.trans (over_below hg hr (by simp only; omega) (by omega)))
  clear hg hr
  clear cb fb ca fa ch fh cw fw cs fs
  clear S7 B7
  have cb := S8.out.cell (List.Mem.head _)
  have fb := S8.out.frozen (List.Mem.head _)
  have ca := S8.out.cell (List.Mem.tail _ (List.Mem.head _))
  have fa := S8.out.frozen (List.Mem.tail _ (List.Mem.head _))
  have ch := S8.out.cell (List.Mem.tail _ (List.Mem.tail _ (List.Mem.head _)))
  have fh := S8.out.frozen (List.Mem.tail _ (List.Mem.tail _ (List.Mem.head _)))
  have cw := S8.out.cell (List.Mem.tail _ (List.Mem.tail _ (List.Mem.tail _ (List.Mem.head _))))
  have fw := S8.out.frozen (List.Mem.tail _ (List.Mem.tail _ (List.Mem.tail _ (List.Mem.head _))))
  have cs := S8.out.cell (List.Mem.tail _ (List.Mem.tail _ (List.Mem.tail _ (List.Mem.tail _ (List.Mem.head _)))))
  have fs := S8.out.frozen (List.Mem.tail _ (List.Mem.tail _ (List.Mem.tail _ (List.Mem.tail _ (List.Mem.head _)))))
  go_wp2_with fail
  refine (sameBeat_eq _ _ _ A4 D _ _ _ F.1.img _ (S8.out.rd (List.Mem.head _)) (HD.out.below B8.out) l1).mono ?_
  rintro e w10 ⟨rfl, hb⟩
  have B9 := Lib.hid (B8.out.trans (hb.mono (by omega)))
  clear hb
  clear cb fb ca fa ch fh cw fw cs fs
  clear S8 B8
  go_wp2
  go_ret
  exact ⟨rfl, B9.out⟩
end Go.Proofs.Ytlccpnloankloaa.Pair
