/-
  slices.Backward over slots: its maker and its iterator. Conditions: the list reads; what the rounds keep.
-/
import Derived.Test.YtnalabohhocjaaaChg6
import Derived.Test.YtnalabohhocjaaaRng
import Derived.RangeFuncNested
import Derived.RangeFuncBound
import Derived.RangeFuncCalls
import Derived.RangeFuncLeaves
import Derived.RangeFuncBox
import Derived.Shelf.RegionOpen
import Derived.OwnWalkIn
import Derived.TacticsInMore
import Derived.LoopNIn
import Derived.LoopIn
import Derived.Sort.QuietIn
import Derived.IntWalk
namespace Go.Proofs.Ytnalabohhocjaaa.Chg
open Go.RowKit Go.Shelf Go.Proofs.Ytnalabohhocjaaa.W Go.Proofs.Ytnalabohhocjaaa.Ints Go.Proofs.Ytnalabohhocjaaa.Cod

attribute [local go_sem] Oper.semAt_some
theorem wide_askedP {P : Program} {o : Oper} {a : Act} {C : World → Prop} : Oper.askedIn Fence.wide P o a C = True := eq_true fun _ _ _ _ => trivial
theorem wide_fnP (f : FuncId) : Fence.wide.fn f = True := rfl
attribute [local go_sem] wide_askedP wide_fnP

theorem backw_in (n : Nat) (A : Option Addr) (len cap : Nat) (w : World) :
    CallsIn Fence.wide n Try.prog 26 #[.slice A len cap] w fun e w' =>
      e = .returned (.func (.func 28) #[] #[.pointer (some ⟨w.heap.size, 0, none⟩)]) ∧ w' = w.alloc (.cells #[.slice A len cap] 24) := by
  refine callsIn_of_wp Try.func26 rfl trivial ?_ rfl
  simp only [Try.ntmps26, List.size_toArray, List.length_cons, List.length_nil, Nat.reduceAdd, Nat.reduceSub, Array.replicate_succ, Array.replicate_zero, List.push_toArray, List.append_toArray, List.nil_append, List.cons_append]
  gi_wp2
  go_ret
  exact ⟨by simp, rfl⟩

/-- which comes next -/
def Nxt (sl : List SL) (n : Nat) (pre : List (Nat × SL)) (x : Nat × SL) : Prop := pre.length < n ∧ x.1 = n - 1 - pre.length ∧ sl[n - 1 - pre.length]? = some x.2
/-- what a round must keep -/
def KpB (Bl : Nat) (A : Option Addr) (n c : Nat) (sl : List SL) (W W' : World) : Prop :=
  (Boxed W Bl 24 (.slice A n c) → Boxed W' Bl 24 (.slice A n c)) ∧ (Rd W 6 A n (slotsV sl) → Rd W' 6 A n (slotsV sl))
theorem KpB.trans {Bl : Nat} {A : Option Addr} {n c : Nat} {sl : List SL} {W W' W'' : World} (h : KpB Bl A n c sl W W') (k : KpB Bl A n c sl W' W'') : KpB Bl A n c sl W W'' := ⟨fun x => k.1 (h.1 x), fun x => k.2 (h.2 x)⟩

set_option maxRecDepth 100000 in
set_option maxHeartbeats 6400000 in
theorem back1_in (d : Nat) (hd : 1 ≤ d) (l Bl n c : Nat) (A : Option Addr) (sl : List SL) (hn1 : n ≤ 20000) (J : List (Nat × SL) → World → Prop)
    (hY : ∀ pre (x : Nat × SL) W, J pre W → Nxt sl n pre x → YieldAt Fence.wide (d - 1) Try.prog l #[.int .i64 (x.1 : Int), SL.val x.2] W fun e W' => e = .returned (.bool true) ∧ J (pre ++ [x]) W' ∧ KpB Bl A n c sl W W')
    (W : World) (hl : Boxed W Bl 24 (.slice A n c)) (hr : Rd W 6 A n (slotsV sl)) (h0 : J [] W) :
    CallsIn Fence.wide d Try.prog 28 #[.func (.yield l) #[] #[], .pointer (some ⟨Bl, 0, none⟩)] W fun e W' => (∃ v, e = .returned v) ∧ ∃ xs : List (Nat × SL), xs.length = n ∧ J xs W' := by
  have HY := Lib.hid hY
  have HR := Lib.hid hr
  have H0 := Lib.hid h0
  have HB := Lib.hid hl
  have cl := hl.cell
  clear hY hr h0 hl
  refine callsIn_of_wp Try.func28 rfl trivial ?_ rfl
  simp only [Try.ntmps28, List.size_toArray, List.length_cons, List.length_nil, Nat.reduceAdd, Nat.reduceSub, Array.replicate_succ, Array.replicate_zero, List.push_toArray, List.append_toArray, List.nil_append, List.cons_append]
  gi_wp2
  clear cl
  gi_loopw [3] (fun i wr => ∃ m : Nat, m ≤ n ∧ i = .int .i64 ((m : Int) - 1) ∧ Hid (∃ pre : List (Nat × SL), pre.length = n - m ∧ J pre wr) ∧ Hid (Boxed wr Bl 24 (.slice A n c)) ∧ Hid (Rd wr 6 A n (slotsV sl))) (fun i _ => (intOf i + 1).toNat)
  case atStart => exact ⟨n, Nat.le_refl _, by go_num, Lib.hid ⟨[], by simp, H0.out⟩, HB, HR⟩
  case round =>
    clear HB HR H0
    obtain ⟨m, hm, rfl, HJ, HB, HR⟩ := hrel
    have cl := HB.out.cell
    cases m with
    | zero =>
      have e0 : ((0 : Nat) : Int) - 1 = -1 := rfl
      rw [e0]
      gi_wp2
      go_end0
      obtain ⟨pre, h1, h2⟩ := HJ.out
      exact ⟨⟨_, rfl⟩, pre, by simpa using h1, h2⟩
    | succ j =>
      have e1 : ((j + 1 : Nat) : Int) - 1 = (j : Int) := by omega
      rw [e1]
      obtain ⟨b, o, s, rfl, hs, hbl, c0, c1, c2, c3, c4, c5⟩ := slot_at HR.out (show j < n by omega)
      have hj0 : (0 : Int) ≤ (j : Int) := by omega
      have hjn : (j : Int) < (n : Int) := by omega
      have HZ := Lib.hid (HJ.out.elim fun pre h => (HY.out pre (j, s) wr h.2 ⟨by omega, by omega, by rw [h.1, show n - 1 - (n - (j + 1)) = j from by omega]; exact hs⟩).mono (R' := fun e W' => e = .returned (.bool true) ∧ (∃ pre : List (Nat × SL), pre.length = n - j ∧ J pre W') ∧ KpB Bl (some ⟨b, o, none⟩) n c sl wr W') (fun e W' k => ⟨k.1, ⟨pre ++ [(j, s)], by simp [h.1]; omega, k.2.1⟩, k.2.2⟩))
      obtain ⟨fn, tmps, assign, body, hy, hR⟩ := HZ.out
      dsimp only at hy
      clear hs HJ HZ
      gi_wp2
      refine hR.mono ?_
      rintro e W3 ⟨rfl, hJ3, hk3⟩
      have HB3 := Lib.hid (hk3.1 HB.out)
      have HR3 := Lib.hid (hk3.2 HR.out)
      have HJ3 := Lib.hid hJ3
      clear hk3 hJ3 HB HR c0 c1 c2 c3 c4 c5 hbl cl hy
      gi_wp2
      go_roundw
      case rel => exact ⟨j, by omega, by go_num, HJ3, HB3, HR3⟩
      case measure => simp [intOf]
end Go.Proofs.Ytnalabohhocjaaa.Chg
