/-
  A tick of a link by bus's Tick: what the reference answers, with rows of its own. Conditions: the words read, within the reach.
-/
import Derived.Test.YtdncdmibmopilaaBus11
namespace Go.Proofs.Ytdncdmibmopilaa.Bus
open Go.RowKit Go.Proofs.Ytdncdmibmopilaa.W Go.Proofs.Ytdncdmibmopilaa.Ints

theorem size_drewN (w : World) (k : Nat) : (w.drewN k).heap.size = w.heap.size := rfl
theorem RowsIn.other {base top lo hi : Nat} {w w' : World} {A B C : Option Addr} {c d e : Nat} {F G : LD} (h : RowsIn base top w w' A B c d F) (o : Own.ok ⟨lo, hi, 3, 1, C, G.words.length, e, ints G.words⟩ w') (h1 : top ≤ lo) (h2 : lo ≤ hi) (h3 : hi ≤ w'.heap.size) (hs : F.safe = G.safe) :
    RowsAt base w w' A C c e G := by
  obtain ⟨l1, h1, l2, h2, hm, o1, o2, hb0⟩ := h
  exact ⟨l1, h1, lo, hi, by omega, hs ▸ o1, o, hb0⟩

set_option maxHeartbeats 3200000 in
theorem Tick_any (st wt : Int) (A : Option Addr) (n c : Nat) (B : Option Addr) (m d : Nat) (seq age : Int) (fresh : Bool) (xs ys : List Int) (w : World)
    (hx : Rd w 1 A n (ints xs)) (hn : n * 8 ≤ 140737488351232) (hy : Rd w 1 B m (ints ys)) (hm : m * 8 ≤ 140737488351232) (hw : wt ≤ 9223372036854775807) (hw' : -9223372036854775808 ≤ wt) :
    Calls Try.prog 23 #[linkV st wt (.slice A n c) (.slice B m d) seq age fresh] w fun e w' => FreshL w w' e (tickF st wt xs ys seq age fresh) := by
  have HLX := Lib.hid (rd_len hx)
  have HLY := Lib.hid (rd_len hy)
  have HX := Lib.hid hx
  have HY := Lib.hid hy
  generalize hT : tickF st wt xs ys seq age fresh = T
  have HT := Lib.hid hT
  clear hT hx hy
  go_enter Try.func23, Try.ntmps23
  go_wp2_with fail
  refine (open_any st wt A n c B m d seq age fresh xs ys _ ((HX.out.alloc _).alloc _) hn ((HY.out.alloc _).alloc _) hm hw hw').mono ?_
  rintro e w1 (⟨hB, rfl, hb⟩ | ⟨hB, g, A1, c1', B1, d1', rfl, kg, base, hb1, hb2, hr⟩)
  · have HB := Lib.hid hB
    obtain ⟨k1, k2, hb, z1, z2⟩ := call2 hb
    have c2 := k2.cell
    have f2 := k2.frozen
    have B1 := Lib.hid hb
    clear k1 k2 hb hB
    go_wp2
    refine bodyPost_ret (v := .tuple #[linkV 0 0 (.slice none 0 0) (.slice none 0 0) 0 0 false, .int .i64 15]) ?_ rfl ?_
    · simp [results, Try.results23, go_sem, c2]
    · rw [show T = (zeroL, 15) from by rw [← HT.out]; simp [tickF, HB.out]]
      refine fault_end _ ?_
      repeat' (first | (with_reducible exact B1.out) | (with_reducible refine Below.setCell ?_ ?_ _; rotate_left; (simp <;> omega)) | (with_reducible refine Below.alloc ?_ ?_ _; rotate_left; (simp <;> omega)))
  · obtain ⟨p1, p2, p3, p4, p5, p6, p7, p8⟩ := could_parts hB
    have HB := Lib.hid hB
    have hmn : m = n := by rw [← HLX.out, ← HLY.out, p3]
    subst hmn
    clear p2 p3 hB
    obtain ⟨k1, k2, hb, z1, z2⟩ := call2 hr.bel
    simp only [World.size_alloc] at hb1
    have hg := kg.lt
    have hr2 := hr.from_ ((below_alloc _).alloc (by simp) _)
    have HR := Lib.hid hr2
    have c2 := k2.cell
    have f2 := k2.frozen
    have c3 := kg.cell
    have f3 := kg.frozen
    have K2 := Lib.hid k2
    have KG := Lib.hid kg
    clear k1 k2 hb kg hr hr2
    have n1 : w.heap.size + 1 < g := by omega
    cases fresh
    · go_wp2
      refine bodyPost_ret (v := .tuple #[linkV st wt (.slice A1 m c1') (.slice B1 m d1') seq age false, .int .i64 0]) ?_ rfl ?_
      · simp [results, Try.results23, go_sem, c2]
      · rw [show T = (⟨st, wt, xs, ys, seq, age, false⟩, 0) from by rw [← HT.out]; simp [tickF, HB.out]]
        refine fresh_end (F := ⟨st, wt, xs, ys, seq, age, false⟩) 0 HLX.out HLY.out ?_
        refine RowsAt.weaken (base := base) (RowsIn.at (top := g) ?_) (by omega)
        repeat' (first | (with_reducible exact HR.out) | (with_reducible refine RowsIn.set ?_ ?_ ?_ _; rotate_left; (simp <;> omega); (simp <;> omega)))
    · by_cases hwt : age + 1 = wt
      · have hwb : ((age + 1) == wt) = true := by simp [hwt]
        have HW := Lib.hid hwt
        clear hwt
        go_wp2
        go_quiet (fail)
        go_wp2_with fail
        refine (Clone_any A1 m c1' xs _ ?_ hn).mono ?_
        · have h := HR.out.safe
          simp only [HLX.out] at h
          repeat' (first | (with_reducible exact h) | (with_reducible refine Rd.set ?_ ?_ _; rotate_left; (intro a ha; have := HR.out.range1 a ha; simp <;> omega)) | (with_reducible refine Rd.drewN ?_ _))
        rintro e w4 ⟨C', e2, rfl, ho3, hb3⟩
        have z5 := hb3.size
        simp only [World.size_setCell, size_drewN] at z5
        have k2 := ((((K2.out.far (p := ⟨g, 5, none⟩) (by simp; omega) (.int .i64 (age + 1))).drewN nq).far (p := ⟨g, 6, none⟩) (by simp; omega) (.bool false)).far (p := ⟨g, 5, none⟩) (by simp; omega) (.int .i64 0)).below hb3
        have k3 := ((((KG.out.put 5 (.int .i64 (age + 1))).drewN nq).put 6 (.bool false)).put 5 (.int .i64 0)).below hb3
        simp only [List.setIfInBounds_toArray, List.set_cons_succ, List.set_cons_zero] at k3
        have hr := (((((HR.out.set (p := ⟨g, 5, none⟩) (by simp) (by simp; omega) (.int .i64 (age + 1))).drewN nq).set (p := ⟨g, 6, none⟩) (by simp) (by simp; omega) (.bool false)).set (p := ⟨g, 5, none⟩) (by simp) (by simp; omega) (.int .i64 0)).below hb3)
        have ho := Own.mk' ho3 (Nat.le_refl w4.heap.size)
        simp only [World.size_setCell, size_drewN] at ho
        have HO := Lib.hid ho
        have HR2 := Lib.hid hr
        clear c2 f2 c3 f3 K2 KG HR hr ho ho3 hb3
        have c2 := k2.cell
        have f2 := k2.frozen
        have c3 := k3.cell
        have f3 := k3.frozen
        clear k2 k3
        go_wp2
        refine bodyPost_ret (v := .tuple #[linkV st wt (.slice A1 m c1') (.slice C' m e2) seq 0 false, .int .i64 0]) ?_ rfl ?_
        · simp [results, Try.results23, go_sem, c2]
        · rw [show T = (⟨st, wt, xs, xs, seq, 0, false⟩, 0) from by rw [← HT.out]; simp [tickF, HB.out, HW.out]]
          refine fresh_end (F := ⟨st, wt, xs, xs, seq, 0, false⟩) 0 HLX.out HLX.out ?_
          refine RowsAt.weaken (base := base) (RowsIn.other (top := g) (lo := w1.heap.size) (hi := w4.heap.size) (B := B1) (d := d1') (F := ⟨st, wt, xs, ys, seq, age, true⟩) ?_ ?_ (Nat.le_of_lt hg) z5 (by simp) rfl) (by omega)
          · repeat' (first | (with_reducible exact HR2.out) | (with_reducible refine RowsIn.set ?_ ?_ ?_ _; rotate_left; (simp <;> omega); (simp <;> omega)))
          · simp only [HLX.out]
            repeat' (first | (with_reducible exact HO.out) | (with_reducible refine ok_set ?_ ?_; rotate_left; (simp <;> omega)))
      · have hwb : ((age + 1) == wt) = false := by simp [hwt]
        have HW := Lib.hid hwt
        clear hwt
        go_wp2
        go_quiet (fail)
        go_wp2
        refine bodyPost_ret (v := .tuple #[linkV st wt (.slice A1 m c1') (.slice B1 m d1') seq (age + 1) true, .int .i64 0]) ?_ rfl ?_
        · simp [results, Try.results23, go_sem, c2]
        · rw [show T = (⟨st, wt, xs, ys, seq, age + 1, true⟩, 0) from by rw [← HT.out]; simp [tickF, HB.out, HW.out]]
          refine fresh_end (F := ⟨st, wt, xs, ys, seq, age + 1, true⟩) 0 HLX.out HLY.out (RowsAt.fields (F := ⟨st, wt, xs, ys, seq, age, true⟩) ?_ rfl rfl)
          refine RowsAt.weaken (base := base) (RowsIn.at (top := g) ?_) (by omega)
          repeat' (first | (with_reducible exact HR.out) | (with_reducible refine RowsIn.set ?_ ?_ ?_ _; rotate_left; (simp <;> omega); (simp <;> omega)) | (with_reducible refine RowsIn.drewN ?_ _))
end Go.Proofs.Ytdncdmibmopilaa.Bus
