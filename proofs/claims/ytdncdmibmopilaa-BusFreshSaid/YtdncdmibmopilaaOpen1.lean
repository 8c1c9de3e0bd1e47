/-
  slices.Chunk over bytes by two: its pieces, one behind the other. Conditions: an even number of bytes that lie below the reach.
-/
import Derived.RangeFuncNested
import Derived.RangeFuncBound
import Derived.RangeFuncCalls
import Derived.RangeFuncLeaves
import Derived.Shelf.Abstract
import Derived.Shelf.RegionOpen
import Derived.WalkKit
import Derived.OwnWalkIn
import Derived.TacticsInMore
import Derived.LoopNIn
import Derived.LoopIn
import Derived.Maps.AppendAt
import Derived.Sort.QuietIn
import Derived.RangeFuncBox
import Derived.Test.YtdncdmibmopilaaCrc1
namespace Go.Proofs.Ytdncdmibmopilaa.Bus
open Go.RowKit Go.Shelf Go.Proofs.Ytdncdmibmopilaa.W Go.Proofs.Ytdncdmibmopilaa.Ints

attribute [local go_sem] Oper.semAt_some

/-- what a round must keep: what lay below n₀, and the two boxes of the maker -/
def KpC (n₀ Bs Bn : Nat) (A B : World) : Prop := Below n₀ A B ∧ (∀ v, Boxed A Bs 31 v → Boxed B Bs 31 v) ∧ (∀ v, Boxed A Bn 3 v → Boxed B Bn 3 v)
theorem kpC_t {n₀ Bs Bn : Nat} {A B C : World} (h : KpC n₀ Bs Bn A B) (k : KpC n₀ Bs Bn B C) : KpC n₀ Bs Bn A C := ⟨h.1.trans k.1, fun v hv => k.2.1 v (h.2.1 v hv), fun v hv => k.2.2 v (h.2.2 v hv)⟩
theorem kpC_b {n₀ Bs Bn : Nat} {w : World} (hn : n₀ ≤ w.heap.size) (h1 : Bs < w.heap.size) (h2 : Bn < w.heap.size) (W : World) (l : Nat) (o o' : Obj) (hl : w.heap.size ≤ l) (h : W.heap[l]? = some o) (hc : o.isCells = false) (hw : o.isWalk = false) : KpC n₀ Bs Bn W (W.putObj l o') :=
  ⟨belowK_b hn W l o o' hl h hc hw, fun v hv => hv.kept (grownBy_putObj' W l o') (by simp; omega), fun v hv => hv.kept (grownBy_putObj' W l o') (by simp; omega)⟩

def upF (m : Nat) : Nat → List (Fin m)
  | 0 => []
  | k + 1 => upF m k ++ (if h : k < m then [⟨k, h⟩] else [])
theorem upF_succ {m k : Nat} (h : k < m) : upF m (k + 1) = upF m k ++ [⟨k, h⟩] := by simp [upF, h]
theorem upF_len {m : Nat} : ∀ {k : Nat}, k ≤ m → (upF m k).length = k
  | 0, _ => rfl
  | k + 1, h => by rw [upF_succ (by omega), List.length_append, upF_len (by omega)]; rfl

theorem grown_drewN (w : World) (k : Nat) : w.grownBy (w.drewN k) none := ⟨rfl, rfl, rfl, Nat.le_refl _, fun _ _ _ => rfl⟩

set_option maxRecDepth 100000 in
set_option maxHeartbeats 2000000 in
theorem chunk1_in (n : Nat) (hn : 1 ≤ n) (l Bs Bn n₀ b off m cap : Nat) (hm : m ≤ 60) (hcap : 2 * m ≤ cap) (_hcm : cap ≤ maxLen) (J Jx : List (Fin m) → World → Prop)
    (hY : ∀ pre (x : Fin m) W, J pre W → pre.length < m → YieldAt Fence.wide (n - 1) Try.prog l #[.slice (some ⟨b, off + 2 * x.1, none⟩) 2 2] W fun e W' =>
      (e = .returned (.bool true) ∧ J (pre ++ [x]) W' ∧ KpC n₀ Bs Bn W W') ∨ (e = .returned (.bool false) ∧ Jx (pre ++ [x]) W'))
    (W : World) (hJ : AbidesFrom W.heap.size J) (hBs : Boxed W Bs 31 (.slice (some ⟨b, off, none⟩) (2 * m) cap)) (hBn : Boxed W Bn 3 (.int .i64 2)) (h0 : J [] W) :
    CallsIn Fence.wide n Try.prog 47 #[.func (.yield l) #[] #[], .pointer (some ⟨Bs, 0, none⟩), .pointer (some ⟨Bn, 0, none⟩)] W fun e W' => (∃ v, e = .returned v) ∧
      ((∃ ys, ys = upF m m ∧ J ys W') ∨ (∃ pre, (∃ k, k ≤ m ∧ pre = upF m k) ∧ Jx pre W')) := by
  refine callsIn_of_wp Try.func47 rfl trivial ?_ rfl
  simp only [Try.ntmps47, List.size_toArray, List.length_cons, List.length_nil, Nat.reduceAdd, Nat.reduceSub, Array.replicate_succ, Array.replicate_zero, List.push_toArray, List.append_toArray, List.nil_append, List.cons_append]
  gi_wp2
  gi_loopw [4] (fun i wr => ∃ k : Nat, k ≤ m ∧ i = .int .i64 ((2 * k : Nat) : Int) ∧ J (upF m k) wr ∧ Boxed wr Bs 31 (.slice (some ⟨b, off, none⟩) (2 * m) cap) ∧ Boxed wr Bn 3 (.int .i64 2)) (fun i _ => 2 * m - (intOf i).toNat)
  case atStart => exact ⟨0, Nat.zero_le _, rfl, h0, hBs, hBn⟩
  case round =>
    obtain ⟨k, hk, rfl, hJs, hs, hn2⟩ := hrel
    have cs := hs.cell
    have cn := hn2.cell
    by_cases hlt : k < m
    · gi_wp2
      gi_quiet (fail)
      have hs' : Boxed (wr.drewN nq) Bs 31 (.slice (some ⟨b, off, none⟩) (2 * m) cap) := hs.kept (grown_drewN wr nq) (by simp)
      have hn' : Boxed (wr.drewN nq) Bn 3 (.int .i64 2) := hn2.kept (grown_drewN wr nq) (by simp)
      have hJ' : J (upF m k) (wr.drewN nq) := hJ _ _ _ none hJs (grown_drewN wr nq) (fun r e => by cases e)
      obtain ⟨fn, tmps, assign, body, hy, hR⟩ := hY _ ⟨k, hlt⟩ (wr.drewN nq) hJ' (by rw [upF_len hk]; exact hlt)
      dsimp only at hy
      gi_wp2
      refine hR.mono ?_
      rintro e W3 (⟨rfl, hJ3, hk3⟩ | ⟨rfl, hJx3⟩)
      · have hs3 := hk3.2.1 _ hs'
        have hn3 := hk3.2.2 _ hn'
        have cs3 := hs3.cell
        have cn3 := hn3.cell
        gi_wp2
        go_roundw
        case rel => exact ⟨k + 1, by omega, by go_num, by rw [upF_succ hlt]; exact hJ3, hs3, hn3⟩
        case measure => simp [intOf]; omega
      · gi_wp2
        refine bodyPost_ret (results_none rfl _ _ _) rfl ?_
        exact ⟨⟨_, rfl⟩, .inr ⟨_, ⟨k + 1, by omega, (upF_succ hlt).symm⟩, hJx3⟩⟩
    · obtain rfl : k = m := by omega
      gi_wp2
      go_end0
      exact ⟨⟨_, rfl⟩, .inl ⟨_, rfl, hJs⟩⟩
end Go.Proofs.Ytdncdmibmopilaa.Bus
