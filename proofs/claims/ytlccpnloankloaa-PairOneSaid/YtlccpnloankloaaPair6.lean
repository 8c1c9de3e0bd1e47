/-
  Contracts of the statements' own sameSide, sameBeat where both are the same. Conditions: the images read.
-/
import Derived.Test.YtlccpnloankloaaPair3
namespace Go.Proofs.Ytlccpnloankloaa.Pair
open Go.RowKit Go.Proofs.Ytlccpnloankloaa.W Go.Proofs.Ytlccpnloankloaa.Ints

theorem below_two {w w' : World} {o1 o2 : Obj} {q : Nat} (h : w' = ((w.alloc o1).alloc o2).drewN q) : Below w.heap.size w w' := by
  subst h
  exact below_drewN ((below_alloc _).alloc (by simp) _) _

set_option maxHeartbeats 1600000 in
theorem sameSide_eq (me : Int) (act : Bool) (term cyc : Int) (A B : Option Addr) (n c d : Nat) (sil pat : Int) (zs : List Int) (w : World) (hA : Rd w 1 A n (ints zs)) (hB : Rd w 1 B n (ints zs)) (hn : n ≤ maxLen) :
    Calls Try.prog 18 #[sideV me act term cyc (.slice A n c) sil pat, sideV me act term cyc (.slice B n d) sil pat] w fun e w' => e = .returned (.bool true) ∧ Below w.heap.size w w' := by
  have HA := Lib.hid hA
  have HB := Lib.hid hB
  clear hA hB
  go_enter Try.func18, Try.ntmps18
  go_wp2_with (go_at_call 36; refine (sameInts_any A B n n c d zs zs _ ((HA.out.alloc _).alloc _) ((HB.out.alloc _).alloc _) hn).mono ?_; rintro e w' ⟨rfl, q, hq⟩; have HQ := Lib.hid (below_two hq); clear hq)
  go_ret
  exact ⟨ret_bool (by simp), HQ.out⟩

set_option maxHeartbeats 1600000 in
theorem sameBeat_eq (me term cyc : Int) (A B : Option Addr) (n c d : Nat) (zs : List Int) (w : World) (hA : Rd w 1 A n (ints zs)) (hB : Rd w 1 B n (ints zs)) (hn : n ≤ maxLen) :
    Calls Try.prog 17 #[beatV me term cyc (.slice A n c), beatV me term cyc (.slice B n d)] w fun e w' => e = .returned (.bool true) ∧ Below w.heap.size w w' := by
  have HA := Lib.hid hA
  have HB := Lib.hid hB
  clear hA hB
  go_enter Try.func17, Try.ntmps17
  go_wp2_with (go_at_call 36; refine (sameInts_any A B n n c d zs zs _ ((HA.out.alloc _).alloc _) ((HB.out.alloc _).alloc _) hn).mono ?_; rintro e w' ⟨rfl, q, hq⟩; have HQ := Lib.hid (below_two hq); clear hq)
  go_ret
  exact ⟨ret_bool (by simp), HQ.out⟩
end Go.Proofs.Ytlccpnloankloaa.Pair
