/-
  Bytes come to a link by bus's Take: what the reference answers, with rows of its own. Conditions: the words and the bytes read, within the reach.
-/
import Derived.Test.YtdncdmibmopilaaTak2
namespace Go.Proofs.Ytdncdmibmopilaa.Bus
open Go.RowKit Go.Proofs.Ytdncdmibmopilaa.W Go.Proofs.Ytdncdmibmopilaa.Ints Go.Proofs.Ytdncdmibmopilaa.Byt Go.Proofs.Ytdncdmibmopilaa.Num

theorem heard_take {st wt : Int} {xs ys : List Int} {seq age : Int} {fresh : Bool} {o : (Int × Int × List Int) × Int} {n : Nat} (hn : xs.length = n) (h : couldB st wt xs ys seq age fresh = true) :
    heardF st wt xs ys seq age fresh o = if takeE st seq fresh n o = 0 then (⟨st, wt, xs, o.1.2.2, o.1.2.1, 0, true⟩, 0) else (⟨st, wt, xs, ys, seq, age, fresh⟩, takeE st seq fresh n o) := by
  subst hn
  unfold heardF takeE
  rw [if_pos h]
  by_cases h1 : (o.2 != 0) = true
  · have h1' : o.2 ≠ 0 := by simpa using h1
    rw [if_pos h1, if_pos h1, if_neg h1']
  · rw [if_neg h1, if_neg h1]
    repeat' split
    all_goals simp_all

set_option maxRecDepth 100000 in
set_option maxHeartbeats 3200000 in
theorem Take_any (st wt : Int) (A : Option Addr) (n c : Nat) (B : Option Addr) (m d : Nat) (seq age : Int) (fresh : Bool) (xs ys : List Int) (Z : Option Addr) (k e : Nat) (bs : List UInt8) (w : World)
    (hx : Rd w 1 A n (ints xs)) (hn : n * 8 ≤ 140737488351232) (hy : Rd w 1 B m (ints ys)) (hm : m * 8 ≤ 140737488351232) (hw : wt ≤ 9223372036854775807) (hw' : -9223372036854775808 ≤ wt) (hz : Rd w 1 Z k (byts bs)) (hke : k ≤ e) (hk : k ≤ 140737488351232) (he : e ≤ maxLen) :
    Calls Try.prog 26 #[linkV st wt (.slice A n c) (.slice B m d) seq age fresh, .slice Z k e] w fun x w' => FreshL w w' x (heardF st wt xs ys seq age fresh (openF bs)) := by
  have HLX := Lib.hid (rd_len hx)
  have HLY := Lib.hid (rd_len hy)
  have HX := Lib.hid hx
  have HY := Lib.hid hy
  have HZ := Lib.hid hz
  generalize hO : openF bs = O
  obtain ⟨⟨ts, tq, tz⟩, er⟩ := O
  have HO := Lib.hid hO
  generalize hT : heardF st wt xs ys seq age fresh ((ts, tq, tz), er) = T
  have HT := Lib.hid hT
  clear hT hx hy hz hO
  go_enter Try.func26, Try.ntmps26
  go_wp2_with fail
  refine (open_any st wt A n c B m d seq age fresh xs ys _ ((HX.out.alloc _).alloc _) hn ((HY.out.alloc _).alloc _) hm hw hw').mono ?_
  rintro x w1 (⟨hB, rfl, hb⟩ | ⟨hB, g, A1, c1', B1, d1', rfl, kg, base, hb1, hb2, hr⟩)
  · have HB := Lib.hid hB
    obtain ⟨k1, k2, hb, z1, z2⟩ := call2 hb
    have c2 := k2.cell
    have f2 := k2.frozen
    have B1 := Lib.hid hb
    clear k1 k2 hb hB
    go_wp2
    refine bodyPost_ret (v := .tuple #[linkV 0 0 (.slice none 0 0) (.slice none 0 0) 0 0 false, .int .i64 15]) ?_ rfl ?_
    · simp [results, Try.results26, go_sem, c2]
    · rw [show T = (zeroL, 15) from by rw [← HT.out]; simp [heardF, HB.out]]
      refine fault_end _ ?_
      repeat' (first | (with_reducible exact B1.out) | (with_reducible refine Below.setCell ?_ ?_ _; rotate_left; (simp <;> omega)) | (with_reducible refine Below.alloc ?_ ?_ _; rotate_left; (simp <;> omega)))
  · obtain ⟨p1, p2, p3, p4, p5, p6, p7, p8⟩ := could_parts hB
    have HB := Lib.hid hB
    have hmn : m = n := by rw [← HLX.out, ← HLY.out, p3]
    subst hmn
    clear p2 p3 hB
    obtain ⟨k1, k2, hb, z1, z2⟩ := call2 hr.bel
    simp only [World.size_alloc] at hb1
    have hg := kg.lt
    have hr2 := hr.from_ ((below_alloc _).alloc (by simp) _)
    have HR := Lib.hid hr2
    have HBW := Lib.hid hb
    have c2 := k2.cell
    have f2 := k2.frozen
    have c3 := kg.cell
    have f3 := kg.frozen
    have K2 := Lib.hid k2
    have KG := Lib.hid kg
    clear k1 k2 hb kg hr hr2
    have n1 : w.heap.size + 1 < g := by omega
    go_wp2_with fail
    refine (take_any g st wt A1 m c1' B1 d1' seq age fresh Z k _ bs _ KG.out (HZ.out.below HBW.out) hke hk he p4 p5).mono ?_
    intro x w2 hf
    rw [HO.out] at hf
    simp only at hf
    rcases hf with ⟨h0, rfl, hb⟩ | ⟨h0, rfl, htl, wa, C, e2, hb, ho, hw2⟩
    · have hTT : T = (⟨st, wt, xs, ys, seq, age, fresh⟩, takeE st seq fresh m ((ts, tq, tz), er)) := by rw [← HT.out, heard_take HLX.out HB.out, if_neg h0]
      have z5 := hb.size
      have k2 := K2.out.below hb
      have k3 := KG.out.below hb
      have HR2 := Lib.hid (HR.out.below hb)
      have HTT := Lib.hid hTT
      clear c2 f2 c3 f3 K2 KG HR hb hTT
      have c2 := k2.cell
      have f2 := k2.frozen
      have c3 := k3.cell
      have f3 := k3.frozen
      clear k2 k3
      generalize takeE st seq fresh m ((ts, tq, tz), er) = E at *
      go_wp2
      refine bodyPost_ret (v := .tuple #[linkV st wt (.slice A1 m c1') (.slice B1 m d1') seq age fresh, .int .i64 E]) ?_ rfl ?_
      · simp [results, Try.results26, go_sem, c2]
      · rw [HTT.out]
        refine fresh_end (F := ⟨st, wt, xs, ys, seq, age, fresh⟩) E HLX.out HLY.out ?_
        refine RowsAt.weaken (base := base) (RowsIn.at (top := g) ?_) (by omega)
        repeat' (first | (with_reducible exact HR2.out) | (with_reducible refine RowsIn.set ?_ ?_ ?_ _; rotate_left; (simp <;> omega); (simp <;> omega)))
    · have hTT : T = (⟨st, wt, xs, tz, tq, 0, true⟩, 0) := by rw [← HT.out, heard_take HLX.out HB.out, if_pos h0]
      have z5 := hb.size
      have zw : w2.heap.size = wa.heap.size := by rw [hw2]; simp
      have k2 := ((((K2.out.below hb).far (p := ⟨g, 3, none⟩) (by simp; omega) (.slice C m e2)).far (p := ⟨g, 4, none⟩) (by simp; omega) (.int .i64 tq)).far (p := ⟨g, 5, none⟩) (by simp; omega) (.int .i64 0)).far (p := ⟨g, 6, none⟩) (by simp; omega) (.bool true)
      have k3 := ((((KG.out.below hb).put 3 (.slice C m e2)).put 4 (.int .i64 tq)).put 5 (.int .i64 0)).put 6 (.bool true)
      simp only [List.setIfInBounds_toArray, List.set_cons_succ, List.set_cons_zero] at k3
      have hr := ((((HR.out.below hb).set (p := ⟨g, 3, none⟩) (by simp) (by simp; omega) (.slice C m e2)).set (p := ⟨g, 4, none⟩) (by simp) (by simp; omega) (.int .i64 tq)).set (p := ⟨g, 5, none⟩) (by simp) (by simp; omega) (.int .i64 0)).set (p := ⟨g, 6, none⟩) (by simp) (by simp; omega) (.bool true)
      have o0 := Own.mk' ho (Nat.le_refl wa.heap.size)
      have o1 := ok_set (ok_set (ok_set (ok_set o0 (p := ⟨g, 3, none⟩) (u := .slice C m e2) hg) (p := ⟨g, 4, none⟩) (u := .int .i64 tq) hg) (p := ⟨g, 5, none⟩) (u := .int .i64 0) hg) (p := ⟨g, 6, none⟩) (u := .bool true) hg
      rw [← hw2] at k2 k3 hr o1
      have HO2 := Lib.hid o1
      have HR2 := Lib.hid hr
      have HTT := Lib.hid hTT
      have HTL := Lib.hid htl
      clear c2 f2 c3 f3 K2 KG HR hr hb ho hTT hw2 o0 o1 h0 htl
      have c2 := k2.cell
      have f2 := k2.frozen
      have c3 := k3.cell
      have f3 := k3.frozen
      clear k2 k3
      go_wp2
      refine bodyPost_ret (v := .tuple #[linkV st wt (.slice A1 m c1') (.slice C m e2) tq 0 true, .int .i64 0]) ?_ rfl ?_
      · simp [results, Try.results26, go_sem, c2]
      · rw [HTT.out]
        refine fresh_end (F := ⟨st, wt, xs, tz, tq, 0, true⟩) 0 HLX.out HTL.out ?_
        refine RowsAt.weaken (base := base) (RowsIn.other (top := g) (lo := w1.heap.size) (hi := wa.heap.size) (B := B1) (d := d1') (F := ⟨st, wt, xs, ys, seq, age, fresh⟩) ?_ ?_ (Nat.le_of_lt hg) z5 (by simp; omega) rfl) (by omega)
        · repeat' (first | (with_reducible exact HR2.out) | (with_reducible refine RowsIn.set ?_ ?_ ?_ _; rotate_left; (simp <;> omega); (simp <;> omega)))
        · simp only [HTL.out]
          repeat' (first | (with_reducible exact HO2.out) | (with_reducible refine ok_set ?_ ?_; rotate_left; (simp <;> omega)))
end Go.Proofs.Ytdncdmibmopilaa.Bus
