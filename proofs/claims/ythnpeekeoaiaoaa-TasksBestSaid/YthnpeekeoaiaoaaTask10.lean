/-
  The walk of the law TasksRespond. Conditions: the arguments read, within the form's own reach.
-/
import Derived.Test.YthnpeekeoaiaoaaTask7
import Derived.Test.YthnpeekeoaiaoaaTask9Respond
import Derived.Test.YthnpeekeoaiaoaaRecs
namespace Go.Proofs.Ythnpeekeoaiaoaa.Task
open Go.RowKit Go.Proofs.Ythnpeekeoaiaoaa.W Go.Proofs.Ythnpeekeoaiaoaa.Ints

def TD.ok (t : TD) : Prop := t.name.size ≤ reachBytes ∧ -9223372036854775808 ≤ t.per ∧ t.per ≤ 9223372036854775807 ∧ -9223372036854775808 ≤ t.off ∧ t.off ≤ 9223372036854775807 ∧ -9223372036854775808 ≤ t.cost ∧ t.cost ≤ 9223372036854775807 ∧ -9223372036854775808 ≤ t.dead ∧ t.dead ≤ 9223372036854775807
theorem task_in {H : Type} {enc : TypeId × Value → H} {w : World} {cs : List Value} (h : O.Op enc Try.prog w 42 cs) : ∃ t : TD, cs = t.cs ∧ t.ok := by
  obtain ⟨hl, hf⟩ := h.struct Try.underlying42
  match cs, hl.trans (by kernel_rfl : Try.prog.cellsOf 42 = 5) with
  | [c0, c1, c2, c3, c4], _ =>
    obtain ⟨s, e0, hs⟩ := (hf 0 _ rfl).string Try.underlying9
    obtain ⟨x1, e1, h1, h1'⟩ := (hf 1 _ rfl).i64 Try.underlying3
    obtain ⟨x2, e2, h2, h2'⟩ := (hf 2 _ rfl).i64 Try.underlying3
    obtain ⟨x3, e3, h3, h3'⟩ := (hf 3 _ rfl).i64 Try.underlying3
    obtain ⟨x4, e4, h4, h4'⟩ := (hf 4 _ rfl).i64 Try.underlying3
    have k3 : Try.prog.cellsOf 3 = 1 := by kernel_rfl
    have k4 : Try.prog.cellsOf 9 = 1 := by kernel_rfl
    simp [k3, k4] at e0 e1 e2 e3 e4
    subst e0 e1 e2 e3 e4
    exact ⟨⟨s, x1, x2, x3, x4⟩, rfl, hs, h1, h1', h2, h2', h3, h3', h4, h4'⟩
theorem tasks_in {H : Type} {enc : TypeId × Value → H} {w : World} {A : Option Addr} {n c : Nat} (h : O.Op enc Try.prog w 22 [.slice A n c]) :
    ∃ ts : List TD, n ≤ c ∧ c * 48 ≤ 140737488351232 ∧ Rd w 5 A n (tasksV ts) ∧ ∀ t ∈ ts, t.ok := by
  obtain ⟨A', n', c', xs, e, h1, h2, h3, h4, _⟩ := h.recs TD.len (by omega) ⟨ByteArray.empty, 0, 0, 0, 0⟩ Try.underlying22 (by kernel_rfl) (by kernel_rfl) (fun cs h => task_in h)
  simp only [List.cons.injEq, Value.slice.injEq, and_true] at e
  obtain ⟨rfl, rfl, rfl⟩ := e
  exact ⟨xs, h1, h2, h3, h4⟩
theorem respond_len (ts : List TD) : (respondF ts).1.length ≤ 16 := by
  unfold respondF
  split
  · rename_i h
    obtain ⟨_, h2, _, _⟩ := fault_ok h
    split
    · simp
    · simp [outTo]; omega
  · simp
theorem walk_Respond (H : Type) (enc : TypeId × Value → H) (w : World) (A : Option Addr) (n c : Nat) (ho : O.Op enc Try.prog w 22 [.slice A n c]) :
    Calls Try.prog 3 #[.slice A n c] w fun e w' => e = .returned (.bool true) ∧ Below w.heap.size w w' := by
  obtain ⟨ts, hnc, hc, hr, _⟩ := tasks_in ho
  clear ho
  have hl := respond_len ts
  generalize hF : respondF ts = F at *
  have HF := Lib.hid hF
  have HR := Lib.hid hr
  clear hF hr
  go_enter Try.func3, Try.ntmps3
  go_wp2_with fail
  refine (RespondR_any A n c ts _ HR.out).mono ?_
  intro e w1 hf
  rw [HF.out] at hf
  obtain ⟨A1, c1, rfl, ho, hb⟩ := hf
  have S1 := Lib.hid ((((St.nil w).below hb).push (Own.mk' ho (Nat.le_refl _))).alloc 26 #[.int .i64 F.2.1, .int .i64 F.2.2, .int .i64 0])
  have B1 := Lib.hid (hb.alloc hb.size (.cells #[.int .i64 F.2.1, .int .i64 F.2.2, .int .i64 0] 26))
  have z1 := hb.size
  clear ho hb
  have cb := (S1.out.blk _ (List.Mem.head _)).cell
  go_wp2_with fail
  refine (listOf_Respond A n c ts F A1 c1 _ (HR.out.below B1.out) (by omega) (S1.out.rd (List.Mem.head _)) (by omega) ?_).mono ?_
  · intro W A' c' hb' hr' hnc'
    have h := Respond_any A' n c' ts W hr' hnc'
    rw [HF.out] at h
    exact h
  · rintro e w2 ⟨rfl, hb⟩
    have B2 := Lib.hid (B1.out.trans (hb.mono (by simp; omega)))
    clear hb
    go_wp2
    go_ret
    exact ⟨rfl, B2.out⟩
end Go.Proofs.Ythnpeekeoaiaoaa.Task
