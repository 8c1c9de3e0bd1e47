/-
  slices.Chunk's maker and its contract; two bytes as a word. Conditions: as before.
-/
import Derived.Test.YtdncdmibmopilaaOpen1
import Derived.Test.YtdncdmibmopilaaNum
import Derived.Deep.QuietTactic
import Derived.BigQuiet
namespace Go.Proofs.Ytdncdmibmopilaa.Bus
open Go.RowKit Go.Shelf Go.Proofs.Ytdncdmibmopilaa.W Go.Proofs.Ytdncdmibmopilaa.Ints Go.Proofs.Ytdncdmibmopilaa.Byt Go.Proofs.Ytdncdmibmopilaa.Num

attribute [local go_sem] Oper.semAt_some

set_option maxHeartbeats 1000000 in
theorem chunk_in (n : Nat) (A : Option Addr) (len cap : Nat) (w : World) :
    CallsIn Fence.wide n Try.prog 40 #[.slice A len cap, .int .i64 2] w fun e w' =>
      e = .returned (.func (.func 47) #[] #[.pointer (some ⟨w.heap.size, 0, none⟩), .pointer (some ⟨w.heap.size + 1, 0, none⟩)]) ∧ w' = (w.alloc (.cells #[.slice A len cap] 31)).alloc (.cells #[.int .i64 2] 3) := by
  refine callsIn_of_wp Try.func40 rfl trivial ?_ rfl
  simp only [Try.ntmps40, List.size_toArray, List.length_cons, List.length_nil, Nat.reduceAdd, Nat.reduceSub, Array.replicate_succ, Array.replicate_zero, List.push_toArray, List.append_toArray, List.nil_append, List.cons_append]
  gi_wp2
  go_ret
  exact ⟨by simp, rfl⟩

theorem chunk_stops (n : Nat) (hn : 1 ≤ n) (Bs Bn n₀ b off m cap : Nat) (hm : m ≤ 60) (hcap : 2 * m ≤ cap) (hcm : cap ≤ maxLen) (w : World)
    (hBs : Boxed w Bs 31 (.slice (some ⟨b, off, none⟩) (2 * m) cap)) (hBn : Boxed w Bn 3 (.int .i64 2)) :
    SeqStopsK Fence.wide n Try.prog 47 #[.pointer (some ⟨Bs, 0, none⟩), .pointer (some ⟨Bn, 0, none⟩)] (fun x : Fin m => #[Value.slice (some ⟨b, off + 2 * x.1, none⟩) 2 2]) (KpC n₀ Bs Bn) (fun ys => ys = upF m m)
      (fun pre => ∃ k, k ≤ m ∧ pre = upF m k) m w := fun l J Jx W hW hJ _ hY h0 =>
  chunk1_in n hn l Bs Bn n₀ b off m cap hm hcap hcm J Jx hY W hJ ((hW.block Bs hBs.lt).trans hBs) ((hW.block Bn hBn.lt).trans hBn) h0

theorem get_any (b o n c : Nat) (x y : UInt8) (w : World) (h0 : w.cell? ⟨b, o, none⟩ = some (.int .u8 (x.toNat : Int))) (h1 : w.cell? ⟨b, o + 1, none⟩ = some (.int .u8 (y.toNat : Int))) (hn : 2 ≤ n) :
    Calls Try.prog 38 #[.slice (some ⟨b, o, none⟩) n c] w fun e w' => e = .returned (.int .i64 ((x.toNat : Int) + 256 * (y.toNat : Int))) ∧ ∃ q, w' = w.drewN q := by
  have hx := x.toNat_lt
  have hy := y.toNat_lt
  generalize x.toNat = p at *
  generalize y.toNat = q at *
  go_enter Try.func38, Try.ntmps38
  go_wp2
  go_quiet (fail)
  go_wp2
  go_ret
  rw [show (q : Int) * 256 = ((q * 256 : Nat) : Int) from by simp, i64_or_nat _ _ (by omega) (by omega), lohi _ _ (by omega)]
  exact ⟨ret_int (by simp; omega), nq, rfl⟩
end Go.Proofs.Ytdncdmibmopilaa.Bus
