/-
  The document's example holds. No conditions.
-/
import Derived.Test.YthnpeekeoaiaoaaPly9
import Derived.Test.YthnpeekeoaiaoaaDut1
import Derived.Test.YthnpeekeoaiaoaaTask7
namespace Go.Proofs.Ythnpeekeoaiaoaa.Task
open Go.RowKit Go.Proofs.Ythnpeekeoaiaoaa.W Go.Proofs.Ythnpeekeoaiaoaa.Ints Go.Proofs.Ythnpeekeoaiaoaa.Keep

def ts3 : List TD := [⟨ByteArray.empty, 4, 0, 1, 4⟩, ⟨ByteArray.empty, 6, 0, 2, 6⟩, ⟨ByteArray.empty, 12, 0, 3, 12⟩]
def X3 : List SD := [⟨0, 0, 0, 1⟩, ⟨1, 0, 1, 3⟩, ⟨2, 0, 3, 4⟩, ⟨0, 1, 4, 5⟩, ⟨2, 0, 5, 6⟩, ⟨1, 1, 6, 8⟩, ⟨0, 2, 8, 9⟩, ⟨2, 0, 9, 10⟩]
theorem resp3 : respondF ts3 = ([1, 3, 10], (0, 0)) := by decide +kernel
theorem play3 : (faultF ts3).1 = 0 ∧ (playF ts3 12).2.length = 8 ∧ (playF ts3 12).2.map SD.cs = X3.map SD.cs := ⟨by decide +kernel, by decide +kernel, by kernel_rfl⟩
theorem played3 : ∃ X, playedF ts3 12 = (X, (0, 0)) ∧ X.length = 8 ∧ sdV X = sdV X3 := by
  obtain ⟨h1, h2, h3⟩ := play3
  have e : ∀ l : List SD, sdV l = (l.map SD.cs).flatten := fun l => by simp [sdV, List.flatMap]
  refine ⟨(playF ts3 12).2, ?_, h2, by rw [e, e, h3]⟩
  unfold playedF
  rw [if_pos h1, if_neg (by omega)]
  rfl
theorem rd_ts3 {w : World} {g : Nat} {ty : TypeId} (h : Blk w g ty #[.string ByteArray.empty, .int .i64 4, .int .i64 0, .int .i64 1, .int .i64 4, .string ByteArray.empty, .int .i64 6, .int .i64 0, .int .i64 2, .int .i64 6, .string ByteArray.empty, .int .i64 12, .int .i64 0, .int .i64 3, .int .i64 12]) : Rd w 5 (some ⟨g, 0, none⟩) 3 (tasksV ts3) := by
  refine ⟨rfl, fun _ => ⟨_, _, rfl, fun j x hx => ?_⟩⟩
  rw [Nat.zero_add, h.cell]
  have e : tasksV ts3 = [.string ByteArray.empty, .int .i64 4, .int .i64 0, .int .i64 1, .int .i64 4, .string ByteArray.empty, .int .i64 6, .int .i64 0, .int .i64 2, .int .i64 6, .string ByteArray.empty, .int .i64 12, .int .i64 0, .int .i64 3, .int .i64 12] := rfl
  rw [e] at hx
  simpa using hx

set_option maxRecDepth 100000 in
set_option maxHeartbeats 6400000 in
theorem known_any (w : World) : Calls Try.prog 14 #[] w fun e w' => e = .returned (.bool true) ∧ Below w.heap.size w w' := by
  have M0 := Lib.hid ((Mem.start w).alloc 42 #[.string ByteArray.empty, .int .i64 4, .int .i64 0, .int .i64 1, .int .i64 4, .string ByteArray.empty, .int .i64 6, .int .i64 0, .int .i64 2, .int .i64 6, .string ByteArray.empty, .int .i64 12, .int .i64 0, .int .i64 3, .int .i64 12])
  go_enter Try.func14, Try.ntmps14
  go_wp2_with fail
  refine (Respond_any _ 3 3 ts3 _ (rd_ts3 (M0.out.blkK 0 rfl)) (Nat.le_refl _)).mono ?_
  intro e w1 hf
  rw [resp3] at hf
  obtain ⟨A1, c1, rfl, ho, hb⟩ := hf
  have M1 := Lib.hid ((M0.out.made hb ho).alloc 26 #[.int .i64 0, .int .i64 0, .int .i64 0])
  clear ho hb M0
  go_wp2_with fail
  obtain ⟨X, hX, hX8, hXs⟩ := played3
  refine (Play_any _ 3 3 ts3 12 _ (rd_ts3 (M1.out.blkK 1 rfl)) (Nat.le_refl _)).mono ?_
  intro e w2 hf
  rw [hX] at hf
  obtain ⟨A2, c2, rfl, ho, hb⟩ := hf
  simp only [hX8, hXs] at ho ⊢
  have M2 := Lib.hid ((M1.out.made hb ho).alloc 26 #[.int .i64 0, .int .i64 0, .int .i64 0])
  clear ho hb M1
  obtain ⟨g2, rfl, _⟩ := M2.out.head (by omega)
  obtain ⟨g1, rfl, _⟩ := (M2.out.upO 1 rfl).head (by simp)
  have a0 := (M2.out.rowO 1 rfl).cellAt 0 (by simp)
  have a1 := (M2.out.rowO 1 rfl).cellAt 1 (by simp)
  have a2 := (M2.out.rowO 1 rfl).cellAt 2 (by simp)
  have s0 := ((M2.out.rowO 0 rfl).cellAt 4 (by omega)).trans (show (sdV X3)[4]? = some (.int .i64 1) from rfl)
  have s1 := ((M2.out.rowO 0 rfl).cellAt 5 (by omega)).trans (show (sdV X3)[5]? = some (.int .i64 0) from rfl)
  have s2 := ((M2.out.rowO 0 rfl).cellAt 6 (by omega)).trans (show (sdV X3)[6]? = some (.int .i64 1) from rfl)
  have s3 := ((M2.out.rowO 0 rfl).cellAt 7 (by omega)).trans (show (sdV X3)[7]? = some (.int .i64 3) from rfl)
  have k1 := M2.out.cellK 0 rfl
  have k2 := M2.out.cellK 1 rfl
  have hb := Lib.hid M2.out.bel
  go_wp2
  go_ret
  exact ⟨rfl, hb.out⟩
end Go.Proofs.Ythnpeekeoaiaoaa.Task
