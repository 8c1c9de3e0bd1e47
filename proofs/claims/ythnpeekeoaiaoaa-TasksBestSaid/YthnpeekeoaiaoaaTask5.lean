/-
  How long a task's jobs take by the reference: the least moment that will do. Conditions: the list reads; the tasks are right.
-/
import Derived.Test.YthnpeekeoaiaoaaTask4
namespace Go.Proofs.Ythnpeekeoaiaoaa.Task
open Go.RowKit Go.Proofs.Ythnpeekeoaiaoaa.W Go.Proofs.Ythnpeekeoaiaoaa.Ints

theorem need_mono {ts : List TD} (ha : ts.all TD.okB = true) (t : TD) (i : Nat) : ∀ x y, x ≤ y → needF ts t i x ≤ needF ts t i y := by
  intro x y h
  have := sum_mono h _ (all_take_ok i ha)
  unfold needF
  omega
theorem need_bd {ts : List TD} (ha : ts.all TD.okB = true) {t : TD} (ho : t.okB = true) (i : Nat) (hn : ts.length ≤ 16) {r : Int} (r1 : 0 ≤ r) (r2 : r ≤ 1000000) : 1 ≤ needF ts t i r ∧ t.cost ≤ needF ts t i r ∧ needF ts t i r ≤ 16000001000000 := by
  obtain ⟨p1, p2, p3, p4, _⟩ := ok_parts ho
  have hs := sum_bd r1 r2 _ (all_take_ok i ha)
  have hl := List.length_take_le i ts
  have hl2 : (ts.take i).length ≤ ts.length := by rw [List.length_take]; omega
  unfold needF
  omega
def respF (ts : List TD) (t : TD) (i : Nat) : Option Int := leastF (needF ts t i) t.dead.toNat

set_option maxHeartbeats 1600000 in
theorem Takes_any (A : Option Addr) (n c i : Nat) (ts : List TD) (t : TD) (w : World)
    (hr : Rd w 5 A n (tasksV ts)) (ht : ts[i]? = some t) (ha : ts.all TD.okB = true) (hn : n ≤ 16) :
    Calls Try.prog 21 #[.slice A n c, .int .i64 i, .int .i64 t.dead] w fun e w' => e = .returned (.int .i64 ((respF ts t i).getD (t.dead + 1))) ∧ Below w.heap.size w w' := by
  have hl := Rd.rec_len TD.len (by omega) hr
  have ho := get_ok ha ht
  have hmono := need_mono ha t i
  have hbd := fun r => @need_bd ts ha t ho i (by omega) r
  obtain ⟨p1, p2, p3, p4, p5, p6, _⟩ := ok_parts ho
  have h1 := hbd 1 (by omega) (by omega)
  obtain ⟨D, hD⟩ := Int.eq_ofNat_of_zero_le (show 0 ≤ t.dead by omega)
  have hD' : t.dead.toNat = D := by omega
  generalize hR : respF ts t i = R
  unfold respF at hR
  rw [hD'] at hR
  have hcall := fun (W : World) (r : Int) (h0 : W.cell? ⟨w.heap.size, 0, none⟩ = some (.slice A n c)) (h1 : W.cell? ⟨w.heap.size + 1, 0, none⟩ = some (.int .i64 i)) (hW : Rd W 5 A n (tasksV ts)) => need_any w.heap.size (w.heap.size + 1) A n c i ts t r W h0 h1 hW ht ha hn
  have HC := Lib.hid hcall
  have HR := Lib.hid hr
  generalize hf : needF ts t i = f at *
  have HM := Lib.hid hmono
  have HBD := Lib.hid hbd
  have HRR := Lib.hid hR
  rw [hD]
  have hd1 : 1 ≤ (D : Int) := by omega
  have hd2 : (D : Int) ≤ 1000000 := by omega
  have H1 := Lib.hid h1
  clear hcall hr ht ha hl ho hmono hbd hR p1 p2 p3 p4 p5 p6 hD hD' hf h1
  go_enter Try.func21, Try.ntmps21
  go_wp2
  generalize hW : World.alloc (w.alloc _) _ = W
  have k0 : Blk W w.heap.size 22 #[.slice A n c] := by rw [← hW]; exact (Blk.new w _ _).alloc _
  have k1 : Blk W (w.heap.size + 1) 3 #[.int .i64 i] := by
    rw [← hW]
    have h := Blk.new (w.alloc (.cells #[.slice A n c] 22)) 3 #[.int .i64 (i : Int)]
    simpa only [World.size_alloc] using h
  have hB : Hid (Below w.heap.size w W) := by rw [← hW]; exact (below_alloc _).alloc (by simp) _
  have g0 := k0.cell 0
  have g1 := k1.cell 0
  simp at g0 g1
  have HRW := Lib.hid (HR.out.below hB.out)
  have HG0 := Lib.hid g0
  have HG1 := Lib.hid g1
  clear hW k0 k1 g0 g1
  go_loop [8, 9] (fun r _ => ∃ x : Int, r = .int .i64 x ∧ 1 ≤ x ∧ x ≤ 16000001000000 ∧ Hid ((∀ y, 1 ≤ y → y < x → y < f y) ∧ (x ≤ (D : Int) → x ≤ f x))) (fun r _ => (D + 1 - intOf r).toNat)
  case atStart => exact ⟨1, rfl, by omega, by omega, fun y h1 h2 => by omega, fun _ => H1.out.1⟩
  case round =>
    obtain ⟨x, rfl, x1, x2, hx⟩ := hrel
    by_cases hlt : x ≤ (D : Int)
    · have hb := HBD.out x (by omega) (by omega)
      have HF := Lib.hid (HC.out W x HG0.out HG1.out HRW.out (by omega) (by omega))
      have hle := hx.out.2 hlt
      have HX := Lib.hid hx.out.1
      generalize hy : f x = y at *
      have HY := Lib.hid hy
      clear hy hx
      obtain ⟨b1, b2, b3⟩ := hb
      by_cases he : y = x
      · have he' : (y == x) = true := by simp [he]
        have hfin : Hid ((R).getD ((D : Int) + 1) = x) := by rw [Hid, ← HRR.out, least_some x1 hlt (by rw [HY.out, he]; exact Int.le_refl _) HX.out]; rfl
        clear he
        go_wp2_with fail
        refine HF.out.mono ?_
        rintro e w' ⟨rfl, rfl⟩
        go_wp2
        go_ret
        exact ⟨ret_int hfin.out.symm, hB.out⟩
      · have he' : (y == x) = false := by simp [he]
        have hlt' : x < y := by omega
        clear he
        go_wp2_with fail
        refine HF.out.mono ?_
        rintro e w' ⟨rfl, rfl⟩
        go_wp2
        go_round
        case rel =>
          refine ⟨y, rfl, by omega, by omega, ?_, fun _ => ?_⟩
          · have := step_none HM.out HX.out
            rw [HY.out] at this
            exact this
          · have := HM.out x y (by omega)
            rw [HY.out] at this
            exact this
        case measure => simp [intOf]; omega
    · have hfin : Hid ((R).getD ((D : Int) + 1) = (D : Int) + 1) := by rw [Hid, ← HRR.out, least_none (fun y h1 h2 => hx.out.1 y h1 (by omega))]; rfl
      have hlt' : (D : Int) < x := by omega
      clear hlt
      go_wp2
      go_ret
      exact ⟨ret_int hfin.out.symm, hB.out⟩
end Go.Proofs.Ythnpeekeoaiaoaa.Task
