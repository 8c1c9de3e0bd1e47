/-
  The walks of the laws PairStart, PairDone, PairWait, PairHear. Conditions: the arguments read, within the form's own reach.
-/
import Derived.Test.YtlccpnloankloaaPair8
import Derived.Test.YtlccpnloankloaaPair9Start
import Derived.Test.YtlccpnloankloaaPair9Done
import Derived.Test.YtlccpnloankloaaPair9Wait
import Derived.Test.YtlccpnloankloaaPair9Hear
import Derived.Test.YtlccpnloankloaaO
namespace Go.Proofs.Ytlccpnloankloaa.Pair
open Go.RowKit Go.Proofs.Ytlccpnloankloaa.W Go.Proofs.Ytlccpnloankloaa.Ints

/-- the reference's answer (its image one of those that came in) against the answer by lists -/
def Meets (w : World) (V : SD Value × Int) (L : SD (List Int) × Int) : Prop :=
  ∃ D dw, V.1.val = sideV L.1.me L.1.act L.1.term L.1.cyc (.slice D L.1.img.length dw) L.1.sil L.1.pat ∧ V.2 = L.2 ∧ Rd w 1 D L.1.img.length (ints L.1.img) ∧ L.1.img.length * 8 ≤ 140737488351232
theorem meets_zero (w : World) (k : Int) : Meets w (zeroS nilS, k) (zeroS [], k) := ⟨none, 0, rfl, rfl, Rd.nil _ _ _, by simp [zeroS]⟩
theorem meets_mk {w : World} (me : Int) (act : Bool) (term cyc : Int) (A : Option Addr) (n c : Nat) (sil pat : Int) (zs : List Int) (k : Int) (h : Rd w 1 A n (ints zs)) (hn : n * 8 ≤ 140737488351232) :
    Meets w (⟨me, act, term, cyc, .slice A n c, sil, pat⟩, k) (⟨me, act, term, cyc, zs, sil, pat⟩, k) := by
  have hl := rd_len h
  subst hl
  exact ⟨A, c, rfl, rfl, h, hn⟩
theorem sided_meets {w : World} (me pat : Int) (A : Option Addr) (n c : Nat) (zs : List Int) (h : Rd w 1 A n (ints zs)) (hn : n * 8 ≤ 140737488351232) :
    Meets w (sidedF nilS me pat (.slice A n c) n) (sidedF [] me pat zs n) := by
  unfold sidedF
  repeat' split
  all_goals first | exact meets_zero _ _ | exact meets_mk _ _ _ _ A n c _ _ zs _ h hn
theorem waited_meets {w : World} (me : Int) (act : Bool) (term cyc : Int) (A : Option Addr) (n c : Nat) (sil pat : Int) (zs : List Int) (h : Rd w 1 A n (ints zs)) (hn : n * 8 ≤ 140737488351232) :
    Meets w (waitedF nilS ⟨me, act, term, cyc, .slice A n c, sil, pat⟩ n) (waitedF [] ⟨me, act, term, cyc, zs, sil, pat⟩ n) := by
  unfold waitedF SD.ok
  repeat' split
  all_goals first | exact meets_zero _ _ | exact meets_mk _ _ _ _ A n c _ _ zs _ h hn | contradiction
theorem cycled_meets {w : World} (me : Int) (act : Bool) (term cyc : Int) (A : Option Addr) (n c : Nat) (sil pat : Int) (zs : List Int) (B : Option Addr) (m d : Nat) (ys : List Int) (h : Rd w 1 A n (ints zs)) (hn : n * 8 ≤ 140737488351232)
    (hy : Rd w 1 B m (ints ys)) (hm : m * 8 ≤ 140737488351232) :
    Meets w (cycledF nilS ⟨me, act, term, cyc, .slice A n c, sil, pat⟩ n (.slice B m d) m) (cycledF [] ⟨me, act, term, cyc, zs, sil, pat⟩ n ys m) := by
  unfold cycledF SD.ok
  repeat' split
  all_goals first | exact meets_zero _ _ | exact meets_mk _ _ _ _ A n c _ _ zs _ h hn | exact meets_mk _ _ _ _ B m d _ _ ys _ hy hm | contradiction
theorem heeded_meets {w : World} (me : Int) (act : Bool) (term cyc : Int) (A : Option Addr) (n c : Nat) (sil pat : Int) (zs : List Int) (bf bt bc : Int) (B : Option Addr) (m d : Nat) (ys : List Int) (h : Rd w 1 A n (ints zs)) (hn : n * 8 ≤ 140737488351232)
    (hy : Rd w 1 B m (ints ys)) (hm : m * 8 ≤ 140737488351232) :
    Meets w (heededF nilS ⟨me, act, term, cyc, .slice A n c, sil, pat⟩ n bf bt bc (.slice B m d) m) (heededF [] ⟨me, act, term, cyc, zs, sil, pat⟩ n bf bt bc ys m) := by
  by_cases ho : bt = term ∧ (act = true ∧ me = 0 ∨ act = false ∧ bc < cyc)
  · have o1 : oldP (⟨me, act, term, cyc, Value.slice A n c, sil, pat⟩ : SD Value) bt bc := ho
    have o2 : oldP (⟨me, act, term, cyc, zs, sil, pat⟩ : SD (List Int)) bt bc := ho
    unfold heededF SD.ok
    simp only [if_pos o1, if_pos o2]
    repeat' split
    all_goals first | exact meets_zero _ _ | exact meets_mk _ _ _ _ A n c _ _ zs _ h hn | contradiction
  · have o1 : ¬ oldP (⟨me, act, term, cyc, Value.slice A n c, sil, pat⟩ : SD Value) bt bc := ho
    have o2 : ¬ oldP (⟨me, act, term, cyc, zs, sil, pat⟩ : SD (List Int)) bt bc := ho
    unfold heededF SD.ok
    simp only [if_neg o1, if_neg o2]
    repeat' split
    all_goals first | exact meets_zero _ _ | exact meets_mk _ _ _ _ A n c _ _ zs _ h hn | exact meets_mk _ _ _ _ B m d _ _ ys _ hy hm | contradiction

theorem ints_in {H : Type} {enc : TypeId × Value → H} {w : World} {B : Option Addr} {m d : Nat} (h : O.Op enc Try.prog w 23 [.slice B m d]) : ∃ ys, Rd w 1 B m (ints ys) ∧ m * 8 ≤ 140737488351232 := by
  obtain ⟨A, n, c, zs, e, hnc, hc, hr, _, _⟩ := h.ints Try.underlying23 Try.underlying3 (by kernel_rfl) (by kernel_rfl)
  simp only [List.cons.injEq, Value.slice.injEq, and_true] at e
  obtain ⟨rfl, rfl, rfl⟩ := e
  exact ⟨zs, hr, by omega⟩
/-- a beat that came in -/
theorem beat_in {H : Type} {enc : TypeId × Value → H} {w : World} {cs : Array Value} (h : O.Op enc Try.prog w 33 cs.toList) :
    ∃ (bf bt bc : Int) (B : Option Addr) (m d : Nat) (ys : List Int), Value.agg cs = beatV bf bt bc (.slice B m d) ∧ Rd w 1 B m (ints ys) ∧ m * 8 ≤ 140737488351232 := by
  obtain ⟨hl, hf⟩ := h.struct Try.underlying33
  obtain ⟨l⟩ := cs
  simp only at hl hf
  match l, hl.trans (by kernel_rfl : Try.prog.cellsOf 33 = 4) with
  | [c0, c1, c2, c3], _ =>
    obtain ⟨bf, e0, _⟩ := (hf 0 _ rfl).i64 Try.underlying3
    obtain ⟨bt, e1, _⟩ := (hf 1 _ rfl).i64 Try.underlying3
    obtain ⟨bc, e2, _⟩ := (hf 2 _ rfl).i64 Try.underlying3
    obtain ⟨A, n, c, zs, e3, hnc, hc, hr, _, _⟩ := (hf 3 _ rfl).ints Try.underlying23 Try.underlying3 (by kernel_rfl) (by kernel_rfl)
    have k3 : Try.prog.cellsOf 3 = 1 := by kernel_rfl
    have k23 : Try.prog.cellsOf 23 = 1 := by kernel_rfl
    simp [k3, k23] at e0 e1 e2 e3
    subst e0 e1 e2 e3
    exact ⟨bf, bt, bc, A, n, c, zs, rfl, hr, by omega⟩
/-- a side that came in -/
theorem side_in {H : Type} {enc : TypeId × Value → H} {w : World} {cs : Array Value} (h : O.Op enc Try.prog w 25 cs.toList) :
    ∃ (me : Int) (act : Bool) (term cyc : Int) (A : Option Addr) (n c : Nat) (sil pat : Int) (zs : List Int), Value.agg cs = sideV me act term cyc (.slice A n c) sil pat ∧ Rd w 1 A n (ints zs) ∧ n * 8 ≤ 140737488351232 := by
  obtain ⟨hl, hf⟩ := h.struct Try.underlying25
  obtain ⟨l⟩ := cs
  simp only at hl hf
  match l, hl.trans (by kernel_rfl : Try.prog.cellsOf 25 = 7) with
  | [c0, c1, c2, c3, c4, c5, c6], _ =>
    obtain ⟨me, e0, _⟩ := (hf 0 _ rfl).i64 Try.underlying3
    obtain ⟨act, e1⟩ := (hf 1 _ rfl).bool Try.underlying4
    obtain ⟨term, e2, _⟩ := (hf 2 _ rfl).i64 Try.underlying3
    obtain ⟨cyc, e3, _⟩ := (hf 3 _ rfl).i64 Try.underlying3
    obtain ⟨A, n, c, zs, e4, hnc, hc, hr, _, _⟩ := (hf 4 _ rfl).ints Try.underlying23 Try.underlying3 (by kernel_rfl) (by kernel_rfl)
    obtain ⟨sil, e5, _⟩ := (hf 5 _ rfl).i64 Try.underlying3
    obtain ⟨pat, e6, _⟩ := (hf 6 _ rfl).i64 Try.underlying3
    have k3 : Try.prog.cellsOf 3 = 1 := by kernel_rfl
    have k4 : Try.prog.cellsOf 4 = 1 := by kernel_rfl
    have k23 : Try.prog.cellsOf 23 = 1 := by kernel_rfl
    simp [k3, k4, k23] at e0 e1 e2 e3 e4 e5 e6
    subst e0 e1 e2 e3 e4 e5 e6
    exact ⟨me, act, term, cyc, A, n, c, sil, pat, zs, rfl, hr, by omega⟩


set_option maxHeartbeats 1600000 in
theorem clos_Wait (me : Int) (act : Bool) (term cyc : Int) (A : Option Addr) (n c : Nat) (sil pat : Int) (zs : List Int) (B : Option Addr) (m d : Nat) (ys : List Int) (w : World)
    (hr : Rd w 1 A n (ints zs)) (hn : n * 8 ≤ 140737488351232) (hry : Rd w 1 B m (ints ys)) (_hm : m * 8 ≤ 140737488351232) :
    Calls Try.prog 23 #[sideV me act term cyc (.slice A n c) sil pat, .slice B m d] w fun e w' => FreshS w w' e (waitedF [] ⟨me, act, term, cyc, zs, sil, pat⟩ n) := by
  generalize hF : waitedF [] ⟨me, act, term, cyc, zs, sil, pat⟩ n = F
  have HF := Lib.hid hF
  have HR := Lib.hid hr
  have HRY := Lib.hid hry
  clear hF hr hry
  go_enter Try.func23, Try.ntmps23
  go_wp2_with (go_at_call 24; go_must (refine (Wait_any me act term cyc A n c sil pat zs _ ((HR.out.alloc _).alloc _) hn).mono ?_); intro e w' hf; rw [HF.out] at hf; obtain ⟨A1, d1, rfl, ho, k1, k2, hb, hz1, hz2⟩ := FreshS.call2 hf; have c2 := k2.cell; have f2 := k2.frozen; have HO := Lib.hid ho; have HB := Lib.hid hb; clear k1 k2 hb ho hf)
  refine bodyPost_ret (v := .tuple #[(F.1.set (Value.slice A1 F.1.img.length d1)).val, .int .i64 F.2]) ?_ rfl ?_
  · simp [results, Try.results23, go_sem, SD.set, SD.val, c2]
  · refine ⟨A1, d1, rfl, ?_, ?_⟩
    · refine own_lift (b := w.heap.size + 2) ?_ (by omega)
      repeat' (first | (with_reducible exact HO.out) | (with_reducible refine ownsRow_setCell_below ?_ ?_ _; rotate_left; (simp <;> omega)))
    · repeat' (first | (with_reducible exact HB.out) | (with_reducible exact Below.refl _ _) | (with_reducible refine Below.setCell ?_ ?_ _; rotate_left; (simp <;> omega)) | (with_reducible refine Below.alloc ?_ ?_ _; rotate_left; (simp <;> omega)))


set_option maxHeartbeats 1600000 in
theorem clos_Start (q0 q1 : Nat) (p0 p1 : Int) (me : Int) (act : Bool) (term cyc : Int) (A : Option Addr) (n c : Nat) (sil pat : Int) (zs : List Int) (B : Option Addr) (m d : Nat) (ys : List Int) (w : World) (hq0 : Blk w q0 3 #[.int .i64 p0]) (hq1 : Blk w q1 3 #[.int .i64 p1])
    (hr : Rd w 1 A n (ints zs)) (_hn : n * 8 ≤ 140737488351232) (hry : Rd w 1 B m (ints ys)) (hm : m * 8 ≤ 140737488351232) :
    Calls Try.prog 12 #[sideV me act term cyc (.slice A n c) sil pat, .slice B m d, .pointer (some ⟨q0, 0, none⟩), .pointer (some ⟨q1, 0, none⟩)] w fun e w' => FreshS w w' e (sidedF [] p0 p1 ys m) := by
  generalize hF : sidedF [] p0 p1 ys m = F
  have HF := Lib.hid hF
  have HR := Lib.hid hr
  have HRY := Lib.hid hry
  clear hF hr hry
  have l0 := hq0.lt
  have l1 := hq1.lt
  have g0 := hq0.cell 0
  have g1 := hq1.cell 0
  simp at g0 g1
  clear hq0 hq1
  go_enter Try.func12, Try.ntmps12
  go_wp2_with (go_at_call 13; go_must (refine (Start_any p0 p1 B m d ys _ ((HRY.out.alloc _).alloc _) hm).mono ?_); intro e w' hf; rw [HF.out] at hf; obtain ⟨A1, d1, rfl, ho, k1, k2, hb, hz1, hz2⟩ := FreshS.call2 hf; have c2 := k2.cell; have f2 := k2.frozen; have HO := Lib.hid ho; have HB := Lib.hid hb; clear k1 k2 hb ho hf)
  refine bodyPost_ret (v := .tuple #[(F.1.set (Value.slice A1 F.1.img.length d1)).val, .int .i64 F.2]) ?_ rfl ?_
  · simp [results, Try.results12, go_sem, SD.set, SD.val, c2]
  · refine ⟨A1, d1, rfl, ?_, ?_⟩
    · refine own_lift (b := w.heap.size + 2) ?_ (by omega)
      repeat' (first | (with_reducible exact HO.out) | (with_reducible refine ownsRow_setCell_below ?_ ?_ _; rotate_left; (simp <;> omega)))
    · repeat' (first | (with_reducible exact HB.out) | (with_reducible exact Below.refl _ _) | (with_reducible refine Below.setCell ?_ ?_ _; rotate_left; (simp <;> omega)) | (with_reducible refine Below.alloc ?_ ?_ _; rotate_left; (simp <;> omega)))


set_option maxHeartbeats 1600000 in
theorem clos_Hear (q : Nat) (bf bt bc : Int) (Bi : Option Addr) (ni ci : Nat) (me : Int) (act : Bool) (term cyc : Int) (A : Option Addr) (n c : Nat) (sil pat : Int) (zs : List Int) (B : Option Addr) (m d : Nat) (ys : List Int) (w : World) (hq : Blk w q 33 #[.int .i64 bf, .int .i64 bt, .int .i64 bc, .slice Bi ni ci])
    (hr : Rd w 1 A n (ints zs)) (hn : n * 8 ≤ 140737488351232) (hry : Rd w 1 B m (ints ys)) (hm : m * 8 ≤ 140737488351232) :
    Calls Try.prog 26 #[sideV me act term cyc (.slice A n c) sil pat, .slice B m d, .pointer (some ⟨q, 0, none⟩)] w fun e w' => FreshS w w' e (heededF [] ⟨me, act, term, cyc, zs, sil, pat⟩ n bf bt bc ys m) := by
  generalize hF : heededF [] ⟨me, act, term, cyc, zs, sil, pat⟩ n bf bt bc ys m = F
  have HF := Lib.hid hF
  have HR := Lib.hid hr
  have HRY := Lib.hid hry
  clear hF hr hry
  have l0 := hq.lt
  have g0 := hq.cell
  clear hq
  go_enter Try.func26, Try.ntmps26
  go_wp2_with (go_at_call 27; go_must (refine (Hear_any me act term cyc A n c sil pat zs bf bt bc B m d ys _ (((HR.out.alloc _).alloc _).alloc _) hn (((HRY.out.alloc _).alloc _).alloc _) hm).mono ?_); intro e w' hf; rw [HF.out] at hf; obtain ⟨A1, d1, rfl, ho, k1, k2, k3, hb, hz1, hz2, hz3⟩ := FreshS.call3 hf; have c2 := k2.cell; have f2 := k2.frozen; have HO := Lib.hid ho; have HB := Lib.hid hb; clear k1 k2 k3 hb ho hf)
  refine bodyPost_ret (v := .tuple #[(F.1.set (Value.slice A1 F.1.img.length d1)).val, .int .i64 F.2]) ?_ rfl ?_
  · simp [results, Try.results26, go_sem, SD.set, SD.val, c2]
  · refine ⟨A1, d1, rfl, ?_, ?_⟩
    · refine own_lift (b := w.heap.size + 3) ?_ (by omega)
      repeat' (first | (with_reducible exact HO.out) | (with_reducible refine ownsRow_setCell_below ?_ ?_ _; rotate_left; (simp <;> omega)))
    · repeat' (first | (with_reducible exact HB.out) | (with_reducible exact Below.refl _ _) | (with_reducible refine Below.setCell ?_ ?_ _; rotate_left; (simp <;> omega)) | (with_reducible refine Below.alloc ?_ ?_ _; rotate_left; (simp <;> omega)))


set_option maxHeartbeats 1600000 in
theorem walk_Wait (H : Type) (enc : TypeId × Value → H) (w : World) (cs : Array Value) (hin : O.Op enc Try.prog w 25 cs.toList) :
    Calls Try.prog 7 #[.agg cs] w fun e w' => e = .returned (.bool true) ∧ Below w.heap.size w w' := by
  obtain ⟨me, act, term, cyc, A, n, c, sil, pat, zs, e, hr, hn⟩ := side_in hin
  rw [e]
  have HR := Lib.hid hr
  obtain ⟨D, dw, hv, h2, hd, hl⟩ := waited_meets (w := w) me act term cyc A n c sil pat zs hr hn
  have HV := Lib.hid hv
  have H2 := Lib.hid h2
  have HD := Lib.hid hd
  clear e hin hr hv h2 hd
  go_enter Try.func7, Try.ntmps7
  go_wp2_with fail
  refine (Waited_any me act term cyc A n c sil pat _).mono ?_
  rintro e w1 ⟨rfl, hb⟩
  rw [HV.out, H2.out]
  obtain ⟨k1, hb, hz1⟩ := call1 hb
  have c1 := k1.cell
  have B1 := Lib.hid hb
  clear k1 hb
  go_wp2_with fail
  refine (sideAs_Wait me act term cyc A n c sil pat zs none 0 0 [] (waitedF [] ⟨me, act, term, cyc, zs, sil, pat⟩ n) D dw _ ((HR.out.below B1.out).alloc _) hn (Rd.nil _ _ _) (by omega) ((HD.out.below B1.out).alloc _) hl ?_).mono ?_
  · intro W A' B' c' d' hb' hr' hy'
    exact clos_Wait me act term cyc A' n c' sil pat zs B' 0 d' [] W hr' hn hy' (by omega)
  · rintro e w2 ⟨rfl, hb⟩
    have B2 := Lib.hid ((B1.out.alloc (by omega) _).trans (hb.mono (by simp <;> omega)))
    clear hb
    go_wp2
    go_ret
    exact ⟨rfl, B2.out⟩

set_option maxHeartbeats 1600000 in
theorem walk_Done (H : Type) (enc : TypeId × Value → H) (w : World) (cs : Array Value) (hin : O.Op enc Try.prog w 25 cs.toList) (B : Option Addr) (m d : Nat) (hb : O.Op enc Try.prog w 23 [.slice B m d]) :
    Calls Try.prog 6 #[.agg cs, .slice B m d] w fun e w' => e = .returned (.bool true) ∧ Below w.heap.size w w' := by
  obtain ⟨me, act, term, cyc, A, n, c, sil, pat, zs, e, hr, hn⟩ := side_in hin
  rw [e]
  obtain ⟨ys, hry, hm⟩ := ints_in hb
  have HR := Lib.hid hr
  have HRY := Lib.hid hry
  obtain ⟨D, dw, hv, h2, hd, hl⟩ := cycled_meets (w := w) me act term cyc A n c sil pat zs B m d ys hr hn hry hm
  have HV := Lib.hid hv
  have H2 := Lib.hid h2
  have HD := Lib.hid hd
  clear e hin hr hv h2 hd hb hry
  go_enter Try.func6, Try.ntmps6
  go_wp2_with fail
  refine (Cycled_any me act term cyc A n c sil pat B m d _).mono ?_
  rintro e w1 ⟨rfl, hb⟩
  rw [HV.out, H2.out]
  obtain ⟨k1, hb, hz1⟩ := call1 hb
  have c1 := k1.cell
  have B1 := Lib.hid hb
  clear k1 hb
  go_wp2_with fail
  refine (sideAs_Done me act term cyc A n c sil pat zs B m d ys (cycledF [] ⟨me, act, term, cyc, zs, sil, pat⟩ n ys m) D dw _ ((HR.out.below B1.out).alloc _) hn ((HRY.out.below B1.out).alloc _) hm ((HD.out.below B1.out).alloc _) hl ?_).mono ?_
  · intro W A' B' c' d' hb' hr' hy'
    exact Done_any me act term cyc A' n c' sil pat zs B' m d' ys W hr' hn hy' hm
  · rintro e w2 ⟨rfl, hb⟩
    have B2 := Lib.hid ((B1.out.alloc (by omega) _).trans (hb.mono (by simp <;> omega)))
    clear hb
    go_wp2
    go_ret
    exact ⟨rfl, B2.out⟩

set_option maxHeartbeats 1600000 in
theorem walk_Start (H : Type) (enc : TypeId × Value → H) (w : World) (me : Int) (_h0 : (Lit.int .i64 me).wf = true) (pat : Int) (_h1 : (Lit.int .i64 pat).wf = true) (B : Option Addr) (m d : Nat) (hb : O.Op enc Try.prog w 23 [.slice B m d]) :
    Calls Try.prog 4 #[.int .i64 me, .int .i64 pat, .slice B m d] w fun e w' => e = .returned (.bool true) ∧ Below w.heap.size w w' := by
  obtain ⟨ys, hry, hm⟩ := ints_in hb
  have HRY := Lib.hid hry
  obtain ⟨D, dw, hv, h2, hd, hl⟩ := sided_meets (w := w) me pat B m d ys hry hm
  have HV := Lib.hid hv
  have H2 := Lib.hid h2
  have HD := Lib.hid hd
  clear hv h2 hd hb hry
  go_enter Try.func4, Try.ntmps4
  go_wp2_with fail
  refine (Sided_any me pat B m d _).mono ?_
  rintro e w1 ⟨rfl, hb⟩
  rw [HV.out, H2.out]
  obtain ⟨k1, k2, hb, hz1, hz2⟩ := call2 hb
  have K1 := Lib.hid k1
  have K2 := Lib.hid k2
  have B1 := Lib.hid hb
  clear k1 k2 hb
  go_wp2_with fail
  refine (sideAs_Start w.heap.size (w.heap.size + 1) 0 false 0 0 none 0 0 0 0 [] B m d ys (sidedF [] me pat ys m) D dw _ (Rd.nil _ _ _) (by omega) ((HRY.out.below B1.out).alloc _) hm ((HD.out.below B1.out).alloc _) hl ?_).mono ?_
  · intro W A' B' c' d' hb' hr' hy'
    exact clos_Start w.heap.size (w.heap.size + 1) me pat 0 false 0 0 A' 0 c' 0 0 [] B' m d' ys W ((K1.out.alloc _).below hb') ((K2.out.alloc _).below hb') hr' (by omega) hy' hm
  · rintro e w2 ⟨rfl, hb⟩
    have B2 := Lib.hid ((B1.out.alloc (by omega) _).trans (hb.mono (by simp <;> omega)))
    clear hb
    go_wp2
    go_ret
    exact ⟨rfl, B2.out⟩

set_option maxHeartbeats 1600000 in
theorem walk_Hear (H : Type) (enc : TypeId × Value → H) (w : World) (cs : Array Value) (hin : O.Op enc Try.prog w 25 cs.toList) (bs : Array Value) (hbin : O.Op enc Try.prog w 33 bs.toList) :
    Calls Try.prog 8 #[.agg cs, .agg bs] w fun e w' => e = .returned (.bool true) ∧ Below w.heap.size w w' := by
  obtain ⟨me, act, term, cyc, A, n, c, sil, pat, zs, e, hr, hn⟩ := side_in hin
  rw [e]
  obtain ⟨bf, bt, bc, B, m, d, ys, e', hry, hm⟩ := beat_in hbin
  rw [e']
  have HR := Lib.hid hr
  have HRY := Lib.hid hry
  obtain ⟨D, dw, hv, h2, hd, hl⟩ := heeded_meets (w := w) me act term cyc A n c sil pat zs bf bt bc B m d ys hr hn hry hm
  have HV := Lib.hid hv
  have H2 := Lib.hid h2
  have HD := Lib.hid hd
  clear e e' hin hbin hr hv h2 hd hry
  go_enter Try.func8, Try.ntmps8
  go_wp2_with fail
  refine (Heeded_any me act term cyc A n c sil pat bf bt bc B m d _).mono ?_
  rintro e w1 ⟨rfl, hb⟩
  rw [HV.out, H2.out]
  obtain ⟨k1, k2, hb, hz1, hz2⟩ := call2 hb
  have c1 := k1.cell
  have c2 := k2.cell
  have K2 := Lib.hid k2
  have B1 := Lib.hid hb
  clear k1 k2 hb
  go_wp2_with fail
  refine (sideAs_Hear (w.heap.size + 1) me act term cyc A n c sil pat zs B m d ys (heededF [] ⟨me, act, term, cyc, zs, sil, pat⟩ n bf bt bc ys m) D dw _ ((HR.out.below B1.out).alloc _) hn ((HRY.out.below B1.out).alloc _) hm ((HD.out.below B1.out).alloc _) hl ?_).mono ?_
  · intro W A' B' c' d' hb' hr' hy'
    exact clos_Hear (w.heap.size + 1) bf bt bc B m d me act term cyc A' n c' sil pat zs B' m d' ys W ((K2.out.alloc _).below hb') hr' hn hy' hm
  · rintro e w2 ⟨rfl, hb⟩
    have B2 := Lib.hid ((B1.out.alloc (by omega) _).trans (hb.mono (by simp <;> omega)))
    clear hb
    go_wp2
    go_ret
    exact ⟨rfl, B2.out⟩
end Go.Proofs.Ytlccpnloankloaa.Pair
