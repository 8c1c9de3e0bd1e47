/-
  A tick of a link: the reference's Ticked and bus's Tick answer the same, with rows of their own. Conditions: the words read, within the reach.
-/
import Derived.Test.YtdncdmibmopilaaBus10
namespace Go.Proofs.Ytdncdmibmopilaa.Bus
open Go.RowKit Go.Proofs.Ytdncdmibmopilaa.W Go.Proofs.Ytdncdmibmopilaa.Ints

def tickF (st wt : Int) (xs ys : List Int) (seq age : Int) (fresh : Bool) : LD × Int :=
  if couldB st wt xs ys seq age fresh = true then ((if fresh = true then (if age + 1 = wt then ⟨st, wt, xs, xs, seq, 0, false⟩ else ⟨st, wt, xs, ys, seq, age + 1, true⟩) else ⟨st, wt, xs, ys, seq, age, false⟩), 0) else (zeroL, 15)

theorem could_parts {st wt : Int} {xs ys : List Int} {seq age : Int} {fresh : Bool} (h : couldB st wt xs ys seq age fresh = true) :
    1 ≤ wt ∧ speltE ys = 0 ∧ ys.length = xs.length ∧ 0 ≤ seq ∧ seq ≤ 255 ∧ 0 ≤ age ∧ age < wt ∧ wt ≤ 1000 := by
  simp only [couldB, Bool.and_eq_true, beq_iff_eq, decide_eq_true_eq, Bool.or_eq_true] at h
  obtain ⟨h1, h2, h3, h4, h5, h6, h7, h8⟩ := h
  refine ⟨linked_ok h1, h2, h3, h4, h5, h6, h7, ?_⟩
  unfold linkedF at h1
  split at h1
  · omega
  · simp at h1

theorem fresh_end {w w' : World} {A B : Option Addr} {c d n : Nat} {F : LD} (k : Int) (h1 : F.safe.length = n) (h2 : F.words.length = n) (hr : RowsAt w.heap.size w w' A B c d F) :
    FreshL w w' (.returned (.tuple #[linkV F.st F.wt (.slice A n c) (.slice B n d) F.seq F.age F.fresh, .int .i64 k])) (F, k) := by
  subst h1
  exact ⟨A, c, B, d, by rw [h2], hr⟩
theorem RowsAt.fields {base : Nat} {w w' : World} {A B : Option Addr} {c d : Nat} {F G : LD} (h : RowsAt base w w' A B c d F) (h1 : F.safe = G.safe) (h2 : F.words = G.words) : RowsAt base w w' A B c d G := by
  unfold RowsAt at h ⊢
  rw [← h1, ← h2]
  exact h
/-- a row in the place of the second one -/
theorem RowsAt.other {base n : Nat} {w w1 w' : World} {A B C : Option Addr} {c d e : Nat} {F G : LD} (h : RowsAt base w w1 A B c d F) (hb : Below w1.heap.size w1 w') (hn : G.words.length = n) (o : w'.ownsRow w1.heap.size 3 1 (.slice C n e) n (ints G.words)) (hs : F.safe = G.safe) : RowsAt base w w' A C c e G := by
  obtain ⟨l1, h1, l2, h2, hm, o1, o2, hb0⟩ := h
  have z := hb.size
  exact ⟨l1, h1, w1.heap.size, w'.heap.size, by omega, hs ▸ ok_below o1 hb, hn ▸ Own.mk' o (Nat.le_refl _), hb0.trans (hb.mono hb0.size)⟩

/-- two copies made one behind the other, a store into a box of the call's own between -/
theorem rows_cc {w w1 w2 w3 : World} {A B : Option Addr} {c d n : Nat} {F : LD} {u : Value} {p : Addr} (h1 : F.safe.length = n) (h2 : F.words.length = n) (hB1 : Below w.heap.size w w1) (hb1 : Below w1.heap.size w1 w2) (hp : p.block < w1.heap.size) (hpw : w.heap.size ≤ p.block)
    (hb2 : Below (w2.setCell p u).heap.size (w2.setCell p u) w3) (o1 : w2.ownsRow w1.heap.size 3 1 (.slice A n c) n (ints F.safe)) (o2 : w3.ownsRow (w2.setCell p u).heap.size 3 1 (.slice B n d) n (ints F.words)) : RowsAt w1.heap.size w w3 A B c d F := by
  subst h1
  have z1 := hB1.size
  have z2 := hb1.size
  have z3 := hb2.size
  simp only [World.size_setCell] at z3
  have k1 := ok_below (ok_set (p := p) (u := u) (Own.mk' o1 (Nat.le_refl _)) hp) hb2
  have k2 := Own.mk' o2 (Nat.le_refl _)
  simp only [World.size_setCell] at k2
  exact ⟨_, _, _, _, ⟨Nat.le_refl _, z2, z2, z3, z3, Nat.le_refl _, .inl (Nat.le_refl _)⟩, k1, h2 ▸ k2, ((hB1.trans (hb1.mono z1)).setCell hpw u).trans (hb2.mono (by simp; omega))⟩

set_option maxHeartbeats 3200000 in
theorem Ticked_any (st wt : Int) (A : Option Addr) (n c : Nat) (B : Option Addr) (m d : Nat) (seq age : Int) (fresh : Bool) (xs ys : List Int) (w : World)
    (hx : Rd w 1 A n (ints xs)) (hn : n * 8 ≤ 140737488351232) (hy : Rd w 1 B m (ints ys)) (hm : m * 8 ≤ 140737488351232) :
    Calls Try.prog 22 #[linkV st wt (.slice A n c) (.slice B m d) seq age fresh] w fun e w' => FreshL w w' e (tickF st wt xs ys seq age fresh) := by
  have HLX := Lib.hid (rd_len hx)
  have HLY := Lib.hid (rd_len hy)
  have HX := Lib.hid hx
  have HY := Lib.hid hy
  cases hB : couldB st wt xs ys seq age fresh
  · have hF : tickF st wt xs ys seq age fresh = (zeroL, 15) := by simp [tickF, hB]
    rw [hF]
    have HB := Lib.hid hB
    clear hF hB hx hy
    go_enter Try.func22, Try.ntmps22
    go_wp2_with fail
    refine (CouldBe_any st wt A n c B m d seq age fresh xs ys _ ((HX.out.alloc _).alloc _) hn ((HY.out.alloc _).alloc _) hm).mono ?_
    rintro e w1 ⟨rfl, hb⟩
    rw [HB.out]
    obtain ⟨k1, k2, hb, z1, z2⟩ := call2 hb
    have c2 := k2.cell
    have f2 := k2.frozen
    have B1 := Lib.hid hb
    clear k1 k2 hb
    go_wp2
    refine bodyPost_ret (v := .tuple #[linkV 0 0 (.slice none 0 0) (.slice none 0 0) 0 0 false, .int .i64 15]) ?_ rfl ?_
    · simp [results, Try.results22, go_sem, c2]
    · refine fault_end _ ?_
      repeat' (first | (with_reducible exact B1.out) | (with_reducible refine Below.setCell ?_ ?_ _; rotate_left; (simp <;> omega)) | (with_reducible refine Below.alloc ?_ ?_ _; rotate_left; (simp <;> omega)))
  · obtain ⟨p1, p2, p3, p4, p5, p6, p7, p8⟩ := could_parts hB
    have p9 : xs.length * 8 ≤ 140737488351232 := by rw [HLX.out]; exact hn
    have HB := Lib.hid hB
    generalize hT : tickF st wt xs ys seq age fresh = T
    have HT := Lib.hid hT
    have hmn : m = n := by rw [← HLX.out, ← HLY.out, p3]
    subst hmn
    clear hT hB hx hy p2 p3 p9
    go_enter Try.func22, Try.ntmps22
    go_wp2_with fail
    refine (CouldBe_any st wt A m c B m d seq age fresh xs ys _ ((HX.out.alloc _).alloc _) hn ((HY.out.alloc _).alloc _) hm).mono ?_
    rintro e w1 ⟨rfl, hb⟩
    rw [HB.out]
    obtain ⟨k1, k2, hb, z1, z2⟩ := call2 hb
    have c1 := k1.cell
    have f1 := k1.frozen
    have c2 := k2.cell
    have f2 := k2.frozen
    have B1 := Lib.hid hb
    have K1 := Lib.hid k1
    have K2 := Lib.hid k2
    clear k1 k2 hb
    go_wp2_with fail
    refine (copyOf_any A m c xs _ (HX.out.below B1.out) hn).mono ?_
    rintro e w2 ⟨A1, d1, rfl, ho1, hb1⟩
    have z3 := hb1.size
    have k1 := (K1.out.below hb1)
    have k2 := (K2.out.below hb1)
    clear c1 f1 c2 f2 K1 K2
    have c1 := k1.cell
    have f1 := k1.frozen
    have c2 := k2.cell
    have f2 := k2.frozen
    have k3 := k1.put 2 (.slice A1 m d1)
    have k4 := k2.far (p := ⟨w.heap.size, 2, none⟩) (by simp) (.slice A1 m d1)
    have O1 := Lib.hid ho1
    have B2 := Lib.hid hb1
    have K1 := Lib.hid k3
    have K2 := Lib.hid k4
    clear k1 k2 k3 k4 ho1 hb1
    go_wp2_with fail
    refine (copyOf_any B m d ys _ (HY.out.below ((B1.out.trans (B2.out.mono (by omega))).setCell (by simp) _)) hm).mono ?_
    rintro e w3 ⟨B1', e1, rfl, ho2, hb2⟩
    have z4 := hb2.size
    simp only [World.size_setCell] at z4
    have k1 := (K1.out.below hb2)
    have k2 := (K2.out.below hb2)
    simp only [List.setIfInBounds_toArray, List.set_cons_succ, List.set_cons_zero] at k1
    clear c1 f1 c2 f2 K1 K2
    have HR := Lib.hid (rows_cc (F := ⟨st, wt, xs, ys, seq, age, fresh⟩) HLX.out HLY.out B1.out B2.out z1 (Nat.le_refl _) hb2 O1.out ho2)
    have c1 := k1.cell
    have f1 := k1.frozen
    have c2 := k2.cell
    have f2 := k2.frozen
    have K1 := Lib.hid k1
    have K2 := Lib.hid k2
    clear k1 k2 ho2 hb2 O1 B2 B1
    cases fresh
    · go_wp2
      refine bodyPost_ret (v := .tuple #[linkV st wt (.slice A1 m d1) (.slice B1' m e1) seq age false, .int .i64 0]) ?_ rfl ?_
      · simp [results, Try.results22, go_sem, c2]
      · rw [show T = (⟨st, wt, xs, ys, seq, age, false⟩, 0) from by rw [← HT.out]; simp [tickF, HB.out]]
        refine fresh_end (F := ⟨st, wt, xs, ys, seq, age, false⟩) 0 HLX.out HLY.out ?_
        refine RowsAt.weaken (base := w1.heap.size) ?_ (by omega)
        repeat' (first | (with_reducible exact HR.out) | (with_reducible refine RowsAt.set ?_ ?_ ?_ _; rotate_left; (simp <;> omega); (simp <;> omega)))
    · by_cases hw : age + 1 = wt
      · have hwb : ((age + 1) == wt) = true := by simp [hw]
        have HW := Lib.hid hw
        clear hw
        go_wp2_with fail
        refine (copyOf_any A1 m d1 xs _ ?_ hn).mono ?_
        · have h := HR.out.safe
          simp only [HLX.out] at h
          repeat' (first | (with_reducible exact h) | (with_reducible refine Rd.set ?_ ?_ _; rotate_left; (intro a ha; have := HR.out.range1 a ha; simp <;> omega)))
        rintro e w4 ⟨C', e2, rfl, ho3, hb3⟩
        have z5 := hb3.size
        simp only [World.size_setCell] at z5
        have k2 := ((((K2.out.far (p := ⟨w.heap.size, 3, none⟩) (by simp) (.slice B1' m e1)).far (p := ⟨w.heap.size, 5, none⟩) (by simp) (.int .i64 (age + 1))).far (p := ⟨w.heap.size, 6, none⟩) (by simp) (.bool false)).far (p := ⟨w.heap.size, 5, none⟩) (by simp) (.int .i64 0)).below hb3
        have k1 := ((((K1.out.put 3 (.slice B1' m e1)).put 5 (.int .i64 (age + 1))).put 6 (.bool false)).put 5 (.int .i64 0)).below hb3
        simp only [List.setIfInBounds_toArray, List.set_cons_succ, List.set_cons_zero] at k1
        have hr : RowsAt w1.heap.size w w4 A1 C' d1 e2 ⟨st, wt, xs, xs, seq, 0, false⟩ := by
          refine RowsAt.other (B := B1') (d := e1) (F := ⟨st, wt, xs, ys, seq, age, true⟩) ?_ hb3 (by simpa using HLX.out) ho3 rfl
          repeat' (first | (with_reducible exact HR.out) | (with_reducible refine RowsAt.set ?_ ?_ ?_ _; rotate_left; (simp <;> omega); (simp <;> omega)))
        have HR2 := Lib.hid hr
        clear c1 c2 f1 f2 K1 K2 HR hr
        have c1 := k1.cell
        have f1 := k1.frozen
        have c2 := k2.cell
        have f2 := k2.frozen
        clear k1 k2 ho3 hb3
        go_wp2
        refine bodyPost_ret (v := .tuple #[linkV st wt (.slice A1 m d1) (.slice C' m e2) seq 0 false, .int .i64 0]) ?_ rfl ?_
        · simp [results, Try.results22, go_sem, c2]
        · rw [show T = (⟨st, wt, xs, xs, seq, 0, false⟩, 0) from by rw [← HT.out]; simp [tickF, HB.out, HW.out]]
          refine fresh_end (F := ⟨st, wt, xs, xs, seq, 0, false⟩) 0 HLX.out HLX.out ?_
          refine RowsAt.weaken (base := w1.heap.size) ?_ (by omega)
          repeat' (first | (with_reducible exact HR2.out) | (with_reducible refine RowsAt.set ?_ ?_ ?_ _; rotate_left; (simp <;> omega); (simp <;> omega)))
      · have hwb : ((age + 1) == wt) = false := by simp [hw]
        have HW := Lib.hid hw
        clear hw
        go_wp2
        refine bodyPost_ret (v := .tuple #[linkV st wt (.slice A1 m d1) (.slice B1' m e1) seq (age + 1) true, .int .i64 0]) ?_ rfl ?_
        · simp [results, Try.results22, go_sem, c2]
        · rw [show T = (⟨st, wt, xs, ys, seq, age + 1, true⟩, 0) from by rw [← HT.out]; simp [tickF, HB.out, HW.out]]
          refine fresh_end (F := ⟨st, wt, xs, ys, seq, age + 1, true⟩) 0 HLX.out HLY.out (RowsAt.fields (F := ⟨st, wt, xs, ys, seq, age, true⟩) ?_ rfl rfl)
          refine RowsAt.weaken (base := w1.heap.size) ?_ (by omega)
          repeat' (first | (with_reducible exact HR.out) | (with_reducible refine RowsAt.set ?_ ?_ ?_ _; rotate_left; (simp <;> omega); (simp <;> omega)))
end Go.Proofs.Ytdncdmibmopilaa.Bus
