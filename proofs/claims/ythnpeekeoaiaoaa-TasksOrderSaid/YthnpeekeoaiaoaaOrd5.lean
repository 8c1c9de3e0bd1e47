/-
  The walk of the law TasksOrder. Conditions: the arguments read, within the form's own reach.
-/
import Derived.Test.YthnpeekeoaiaoaaOrd3
import Derived.Test.YthnpeekeoaiaoaaOrd4
import Derived.Test.YthnpeekeoaiaoaaTask9Order
import Derived.Test.YthnpeekeoaiaoaaTask10
namespace Go.Proofs.Ythnpeekeoaiaoaa.Task
open Go.RowKit Go.Proofs.Ythnpeekeoaiaoaa.W Go.Proofs.Ythnpeekeoaiaoaa.Ints

theorem walk_Order (H : Type) (enc : TypeId × Value → H) (w : World) (A : Option Addr) (n c : Nat) (ho : O.Op enc Try.prog w 22 [.slice A n c]) :
    Calls Try.prog 6 #[.slice A n c] w fun e w' => e = .returned (.bool true) ∧ Below w.heap.size w w' := by
  obtain ⟨ts, hnc, hc, hr, _⟩ := tasks_in ho
  clear ho
  have hl := order_len ts
  generalize hF : orderF ts = F at *
  have HF := Lib.hid hF
  have HR := Lib.hid hr
  clear hF hr
  go_enter Try.func6, Try.ntmps6
  go_wp2_with fail
  refine (OrderR_any A n c ts _ HR.out).mono ?_
  intro e w1 hf
  rw [HF.out] at hf
  obtain ⟨A1, c1, rfl, ho, hb⟩ := hf
  have S1 := Lib.hid ((((St.nil w).below hb).push (Own.mk' ho (Nat.le_refl _))).alloc 26 #[.int .i64 F.2.1, .int .i64 F.2.2, .int .i64 0])
  have B1 := Lib.hid (hb.alloc hb.size (.cells #[.int .i64 F.2.1, .int .i64 F.2.2, .int .i64 0] 26))
  have z1 := hb.size
  clear ho hb
  have cb := (S1.out.blk _ (List.Mem.head _)).cell
  go_wp2_with fail
  refine (listOf_Order A n c ts F A1 c1 _ (HR.out.below B1.out) (by omega) (S1.out.rd (List.Mem.head _)) (by omega) ?_).mono ?_
  · intro W A' c' hb' hr' hnc'
    have h := Order_any A' n c' ts W hr' hnc'
    rw [HF.out] at h
    exact h
  · rintro e w2 ⟨rfl, hb⟩
    have B2 := Lib.hid (B1.out.trans (hb.mono (by simp; omega)))
    clear hb
    go_wp2
    go_ret
    exact ⟨rfl, B2.out⟩
end Go.Proofs.Ythnpeekeoaiaoaa.Task
