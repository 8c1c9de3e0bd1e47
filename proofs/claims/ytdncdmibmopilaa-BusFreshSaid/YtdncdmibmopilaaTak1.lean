/-
  Bytes come to a link: the reference's Heard, with rows of its own. Conditions: the words and the bytes read, within the reach.
-/
import Derived.Test.YtdncdmibmopilaaBus12
import Derived.Test.YtdncdmibmopilaaOpen4
namespace Go.Proofs.Ytdncdmibmopilaa.Bus
open Go.RowKit Go.Proofs.Ytdncdmibmopilaa.W Go.Proofs.Ytdncdmibmopilaa.Ints Go.Proofs.Ytdncdmibmopilaa.Byt Go.Proofs.Ytdncdmibmopilaa.Num

def lateB (seq tq : Int) : Bool := decide ((tq - seq) % 256 < 1) || decide (127 < (tq - seq) % 256)
def heardF (st wt : Int) (xs ys : List Int) (seq age : Int) (fresh : Bool) (o : (Int × Int × List Int) × Int) : LD × Int :=
  if couldB st wt xs ys seq age fresh = true then
    (if (o.2 != 0) = true then (⟨st, wt, xs, ys, seq, age, fresh⟩, o.2)
     else if (o.1.1 != st) = true then (⟨st, wt, xs, ys, seq, age, fresh⟩, 6)
     else if ((o.1.2.2.length : Int) != (xs.length : Int)) = true then (⟨st, wt, xs, ys, seq, age, fresh⟩, 4)
     else if (fresh && lateB seq o.1.2.1) = true then (⟨st, wt, xs, ys, seq, age, fresh⟩, 18)
     else (⟨st, wt, xs, o.1.2.2, o.1.2.1, 0, true⟩, 0))
  else (zeroL, 15)
theorem openF_bounds {bs : List UInt8} : (openF bs).1.2.2.length ≤ 60 ∧ 0 ≤ (openF bs).1.2.1 ∧ (openF bs).1.2.1 ≤ 255 := by
  have u1 : bAt bs 1 < 256 := (bs.getD 1 0).toNat_lt
  unfold openF
  repeat' split
  all_goals simp [told_len]
  omega

set_option maxRecDepth 100000 in
set_option maxHeartbeats 6400000 in
theorem Heard_any (st wt : Int) (A : Option Addr) (n c : Nat) (B : Option Addr) (m d : Nat) (seq age : Int) (fresh : Bool) (xs ys : List Int) (Z : Option Addr) (k e : Nat) (bs : List UInt8) (w : World)
    (hx : Rd w 1 A n (ints xs)) (hn : n * 8 ≤ 140737488351232) (hy : Rd w 1 B m (ints ys)) (hm : m * 8 ≤ 140737488351232) (hz : Rd w 1 Z k (byts bs)) (hke : k ≤ e) (he : e ≤ 140737488351232) :
    Calls Try.prog 24 #[linkV st wt (.slice A n c) (.slice B m d) seq age fresh, .slice Z k e] w fun e w' => FreshL w w' e (heardF st wt xs ys seq age fresh (openF bs)) := by
  have HLX := Lib.hid (rd_len hx)
  have HLY := Lib.hid (rd_len hy)
  have HX := Lib.hid hx
  have HY := Lib.hid hy
  have HZ := Lib.hid hz
  obtain ⟨h60, hq0, hq1⟩ := openF_bounds (bs := bs)
  generalize hO : openF bs = O at *
  obtain ⟨⟨ts, tq, tz⟩, er⟩ := O
  simp only at h60 hq0 hq1
  have HO := Lib.hid hO
  clear hO hz
  cases hB : couldB st wt xs ys seq age fresh
  · have hF : heardF st wt xs ys seq age fresh ((ts, tq, tz), er) = (zeroL, 15) := by simp [heardF, hB]
    rw [hF]
    have HB := Lib.hid hB
    clear hF hB hx hy
    go_enter Try.func24, Try.ntmps24
    go_wp2_with fail
    refine (CouldBe_any st wt A n c B m d seq age fresh xs ys _ ((HX.out.alloc _).alloc _) hn ((HY.out.alloc _).alloc _) hm).mono ?_
    rintro e w1 ⟨rfl, hb⟩
    rw [HB.out]
    obtain ⟨k1, k2, hb, z1, z2⟩ := call2 hb
    have c2 := k2.cell
    have f2 := k2.frozen
    have B1 := Lib.hid hb
    clear k1 k2 hb
    go_wp2
    refine bodyPost_ret (v := .tuple #[linkV 0 0 (.slice none 0 0) (.slice none 0 0) 0 0 false, .int .i64 15]) ?_ rfl ?_
    · simp [results, Try.results24, go_sem, c2]
    · refine fault_end _ ?_
      repeat' (first | (with_reducible exact B1.out) | (with_reducible refine Below.setCell ?_ ?_ _; rotate_left; (simp <;> omega)) | (with_reducible refine Below.alloc ?_ ?_ _; rotate_left; (simp <;> omega)))
  · obtain ⟨p1, p2, p3, p4, p5, p6, p7, p8⟩ := could_parts hB
    have p9 : xs.length * 8 ≤ 140737488351232 := by rw [HLX.out]; exact hn
    have HB := Lib.hid hB
    generalize hT : heardF st wt xs ys seq age fresh ((ts, tq, tz), er) = T
    have HT := Lib.hid hT
    have hmn : m = n := by rw [← HLX.out, ← HLY.out, p3]
    subst hmn
    clear hT hB hx hy p2 p3 p9
    go_enter Try.func24, Try.ntmps24
    go_wp2_with fail
    refine (CouldBe_any st wt A m c B m d seq age fresh xs ys _ ((HX.out.alloc _).alloc _) hn ((HY.out.alloc _).alloc _) hm).mono ?_
    rintro e w1 ⟨rfl, hb⟩
    rw [HB.out]
    obtain ⟨k1, k2, hb, z1, z2⟩ := call2 hb
    have c1 := k1.cell
    have f1 := k1.frozen
    have c2 := k2.cell
    have f2 := k2.frozen
    have B1 := Lib.hid hb
    have K1 := Lib.hid k1
    have K2 := Lib.hid k2
    clear k1 k2 hb
    go_wp2_with fail
    refine (copyOf_any A m c xs _ (HX.out.below B1.out) hn).mono ?_
    rintro e w2 ⟨A1, d1, rfl, ho1, hb1⟩
    have z3 := hb1.size
    have k1 := (K1.out.below hb1)
    have k2 := (K2.out.below hb1)
    clear c1 f1 c2 f2 K1 K2
    have c1 := k1.cell
    have f1 := k1.frozen
    have c2 := k2.cell
    have f2 := k2.frozen
    have k3 := k1.put 2 (.slice A1 m d1)
    have k4 := k2.far (p := ⟨w.heap.size, 2, none⟩) (by simp) (.slice A1 m d1)
    have O1 := Lib.hid ho1
    have B2 := Lib.hid hb1
    have K1 := Lib.hid k3
    have K2 := Lib.hid k4
    clear k1 k2 k3 k4 ho1 hb1
    go_wp2_with fail
    refine (copyOf_any B m d ys _ (HY.out.below ((B1.out.trans (B2.out.mono (by omega))).setCell (by simp) _)) hm).mono ?_
    rintro e w3 ⟨B1', e1, rfl, ho2, hb2⟩
    have z4 := hb2.size
    simp only [World.size_setCell] at z4
    have k1 := (K1.out.below hb2)
    have k2 := (K2.out.below hb2)
    simp only [List.setIfInBounds_toArray, List.set_cons_succ, List.set_cons_zero] at k1
    clear c1 f1 c2 f2 K1 K2
    have hr0 := rows_cc (F := ⟨st, wt, xs, ys, seq, age, fresh⟩) HLX.out HLY.out B1.out B2.out z1 (Nat.le_refl _) hb2 O1.out ho2
    have c1 := k1.cell
    have f1 := k1.frozen
    have c2 := k2.cell
    have f2 := k2.frozen
    have k3 := k1.put 3 (.slice B1' m e1)
    have k4 := k2.far (p := ⟨w.heap.size, 3, none⟩) (by simp) (.slice B1' m e1)
    simp only [List.setIfInBounds_toArray, List.set_cons_succ, List.set_cons_zero] at k3
    have HR := Lib.hid (hr0.set (p := ⟨w.heap.size, 3, none⟩) (by simp; omega) (by simp) (.slice B1' m e1))
    have K1 := Lib.hid k3
    have K2 := Lib.hid k4
    clear k1 k2 k3 k4 ho2 hb2 O1 B2 B1 hr0
    go_wp2_with fail
    refine (OpenR_any Z k _ bs _ (HZ.out.below HR.out.bel) hke he).mono ?_
    intro e w4 hf
    rw [HO.out] at hf
    obtain ⟨C, d2, rfl, o4, hb4⟩ := hf
    simp only at o4
    have z5 := hb4.size
    simp only [World.size_setCell] at z5
    have k1 := K1.out.below hb4
    have k2 := K2.out.below hb4
    have HR4 := Lib.hid (HR.out.below hb4)
    have HS := Lib.hid o4
    have HB4 := Lib.hid hb4
    clear c1 f1 c2 f2 K1 K2 o4 hb4
    have c1 := k1.cell
    have f1 := k1.frozen
    have c2 := k2.cell
    have f2 := k2.frozen
    clear k1 k2
    have z6 : w.heap.size < w4.heap.size := by omega
    have z7 : w.heap.size + 1 < w4.heap.size := by omega
    cases h1 : (er != 0)
    rotate_left
    · have H1 := Lib.hid h1
      go_wp2
      refine bodyPost_ret (v := .tuple #[linkV st wt (.slice A1 m d1) (.slice B1' m e1) seq age fresh, .int .i64 er]) ?_ rfl ?_
      · simp [results, Try.results24, go_sem, World.cell?_alloc_lt, z7, c2]
      · rw [show T = (⟨st, wt, xs, ys, seq, age, fresh⟩, er) from by rw [← HT.out]; simp only [heardF, HB.out, if_true]; simp [h1]]
        refine fresh_end (F := ⟨st, wt, xs, ys, seq, age, fresh⟩) er HLX.out HLY.out ?_
        refine RowsAt.weaken (base := w1.heap.size) ?_ (by omega)
        repeat' (first | (with_reducible exact HR4.out) | (with_reducible refine RowsAt.set ?_ ?_ ?_ _; rotate_left; (simp <;> omega); (simp <;> omega)) | (with_reducible refine RowsAt.alloc ?_ _))
    · have he0 : er = 0 := by simpa using h1
      subst he0
      clear h1
      cases h2 : (ts != st)
      rotate_left
      · have H2 := Lib.hid h2
        go_wp2
        refine bodyPost_ret (v := .tuple #[linkV st wt (.slice A1 m d1) (.slice B1' m e1) seq age fresh, .int .i64 6]) ?_ rfl ?_
        · simp [results, Try.results24, go_sem, World.cell?_alloc_lt, z7, c2]
        · rw [show T = (⟨st, wt, xs, ys, seq, age, fresh⟩, 6) from by rw [← HT.out]; simp only [heardF, HB.out, if_true]; simp [H2.out]]
          refine fresh_end (F := ⟨st, wt, xs, ys, seq, age, fresh⟩) 6 HLX.out HLY.out ?_
          refine RowsAt.weaken (base := w1.heap.size) ?_ (by omega)
          repeat' (first | (with_reducible exact HR4.out) | (with_reducible refine RowsAt.set ?_ ?_ ?_ _; rotate_left; (simp <;> omega); (simp <;> omega)) | (with_reducible refine RowsAt.alloc ?_ _))
      · have H2 := Lib.hid h2
        cases h3 : ((tz.length : Int) != (m : Int))
        rotate_left
        · have H3 : Hid (((tz.length : Int) != (xs.length : Int)) = true) := by rw [HLX.out]; exact h3
          go_wp2
          refine bodyPost_ret (v := .tuple #[linkV st wt (.slice A1 m d1) (.slice B1' m e1) seq age fresh, .int .i64 4]) ?_ rfl ?_
          · simp [results, Try.results24, go_sem, World.cell?_alloc_lt, z7, c2]
          · rw [show T = (⟨st, wt, xs, ys, seq, age, fresh⟩, 4) from by rw [← HT.out]; simp only [heardF, HB.out, if_true]; simp [H2.out, H3.out]]
            refine fresh_end (F := ⟨st, wt, xs, ys, seq, age, fresh⟩) 4 HLX.out HLY.out ?_
            refine RowsAt.weaken (base := w1.heap.size) ?_ (by omega)
            repeat' (first | (with_reducible exact HR4.out) | (with_reducible refine RowsAt.set ?_ ?_ ?_ _; rotate_left; (simp <;> omega); (simp <;> omega)) | (with_reducible refine RowsAt.alloc ?_ _))
        · have H3 : Hid (((tz.length : Int) != (xs.length : Int)) = false) := by rw [HLX.out]; exact h3
          have hml : tz.length = m := by simp at h3; omega
          have HTL := Lib.hid hml
          rw [hml] at HS
          rw [hml]
          clear h3
          have h3 : ((m : Int) != (m : Int)) = false := by simp
          clear hml h60
          cases fresh
          ·
            go_wp2
            refine bodyPost_ret (v := .tuple #[linkV st wt (.slice A1 m d1) (.slice C m d2) tq 0 true, .int .i64 0]) ?_ rfl ?_
            · simp [results, Try.results24, go_sem, World.cell?_alloc_lt, z7, c2]
            · rw [show T = (⟨st, wt, xs, tz, tq, 0, true⟩, 0) from by rw [← HT.out]; simp only [heardF, HB.out, if_true]; simp [H2.out, H3.out]]
              have hr : RowsAt w1.heap.size w w4 A1 C d1 d2 ⟨st, wt, xs, tz, tq, 0, true⟩ := RowsAt.other (B := B1') (d := e1) (F := ⟨st, wt, xs, ys, seq, age, false⟩) HR.out HB4.out HTL.out HS.out rfl
              refine fresh_end (F := ⟨st, wt, xs, tz, tq, 0, true⟩) 0 HLX.out HTL.out ?_
              refine RowsAt.weaken (base := w1.heap.size) ?_ (by omega)
              have HR5 := Lib.hid hr
              repeat' (first | (with_reducible exact HR5.out) | (with_reducible refine RowsAt.set ?_ ?_ ?_ _; rotate_left; (simp <;> omega); (simp <;> omega)) | (with_reducible refine RowsAt.alloc ?_ _))
          · cases h4 : decide ((tq - seq) % 256 < 1)
            · cases h5 : decide (127 < (tq - seq) % 256)
              · have H4 : Hid (lateB seq tq = false) := by simp only [Hid, lateB, h4, h5]; rfl
                go_wp2
                refine bodyPost_ret (v := .tuple #[linkV st wt (.slice A1 m d1) (.slice C m d2) tq 0 true, .int .i64 0]) ?_ rfl ?_
                · simp [results, Try.results24, go_sem, World.cell?_alloc_lt, z7, c2]
                · rw [show T = (⟨st, wt, xs, tz, tq, 0, true⟩, 0) from by rw [← HT.out]; simp only [heardF, HB.out, if_true]; simp [H2.out, H3.out, H4.out]]
                  have hr : RowsAt w1.heap.size w w4 A1 C d1 d2 ⟨st, wt, xs, tz, tq, 0, true⟩ := RowsAt.other (B := B1') (d := e1) (F := ⟨st, wt, xs, ys, seq, age, true⟩) HR.out HB4.out HTL.out HS.out rfl
                  refine fresh_end (F := ⟨st, wt, xs, tz, tq, 0, true⟩) 0 HLX.out HTL.out ?_
                  refine RowsAt.weaken (base := w1.heap.size) ?_ (by omega)
                  have HR5 := Lib.hid hr
                  repeat' (first | (with_reducible exact HR5.out) | (with_reducible refine RowsAt.set ?_ ?_ ?_ _; rotate_left; (simp <;> omega); (simp <;> omega)) | (with_reducible refine RowsAt.alloc ?_ _))
              · have H4 : Hid (lateB seq tq = true) := by simp only [Hid, lateB, h4, h5]; rfl
                go_wp2
                refine bodyPost_ret (v := .tuple #[linkV st wt (.slice A1 m d1) (.slice B1' m e1) seq age true, .int .i64 18]) ?_ rfl ?_
                · simp [results, Try.results24, go_sem, World.cell?_alloc_lt, z7, c2]
                · rw [show T = (⟨st, wt, xs, ys, seq, age, true⟩, 18) from by rw [← HT.out]; simp only [heardF, HB.out, if_true]; simp [H2.out, H3.out, H4.out]]
                  refine fresh_end (F := ⟨st, wt, xs, ys, seq, age, true⟩) 18 HLX.out HLY.out ?_
                  refine RowsAt.weaken (base := w1.heap.size) ?_ (by omega)
                  repeat' (first | (with_reducible exact HR4.out) | (with_reducible refine RowsAt.set ?_ ?_ ?_ _; rotate_left; (simp <;> omega); (simp <;> omega)) | (with_reducible refine RowsAt.alloc ?_ _))
            · have H4 : Hid (lateB seq tq = true) := by simp only [Hid, lateB, h4]; rfl
              go_wp2
              refine bodyPost_ret (v := .tuple #[linkV st wt (.slice A1 m d1) (.slice B1' m e1) seq age true, .int .i64 18]) ?_ rfl ?_
              · simp [results, Try.results24, go_sem, World.cell?_alloc_lt, z7, c2]
              · rw [show T = (⟨st, wt, xs, ys, seq, age, true⟩, 18) from by rw [← HT.out]; simp only [heardF, HB.out, if_true]; simp [H2.out, H3.out, H4.out]]
                refine fresh_end (F := ⟨st, wt, xs, ys, seq, age, true⟩) 18 HLX.out HLY.out ?_
                refine RowsAt.weaken (base := w1.heap.size) ?_ (by omega)
                repeat' (first | (with_reducible exact HR4.out) | (with_reducible refine RowsAt.set ?_ ?_ ?_ _; rotate_left; (simp <;> omega); (simp <;> omega)) | (with_reducible refine RowsAt.alloc ?_ _))
end Go.Proofs.Ytdncdmibmopilaa.Bus
