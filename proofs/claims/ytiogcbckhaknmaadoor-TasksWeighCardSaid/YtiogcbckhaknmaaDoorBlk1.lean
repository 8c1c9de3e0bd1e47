/-
  What the texts of pins say: plain; pins' walk. Conditions: the text and its pieces are short; the variable that holds the length of the library's longest quick search reads.
-/
import Derived.Test.YtiogcbckhaknmaaDoorInts
import Derived.Test.YtiogcbckhaknmaaDoorMem
import Derived.Test.YtiogcbckhaknmaaDoorApl
import Derived.Test.YtiogcbckhaknmaaDoorShelf
import Derived.BigRegion
namespace Go.Proofs.YtiogcbckhaknmaaDoor.Blk
open Go.RowKit Go.Proofs.YtiogcbckhaknmaaDoor.W Go.Proofs.YtiogcbckhaknmaaDoor.Ints

theorem str_eq {R : ByteArray} {l : List UInt8} (h : R.data.toList = l) : (R.toList == l) = true := by
  rw [ByteArray.toList_eq, h]
  simp
theorem str_ne {R : ByteArray} {l : List UInt8} (h : ¬ R.data.toList = l) : (R.toList == l) = false := by
  rw [ByteArray.toList_eq]
  simpa using h
/-- a pin: its name, its kind -/
structure PN where
  name : ByteArray
  kind : Int
deriving DecidableEq
def PN.cs (p : PN) : List Value := [.string p.name, .int .i64 p.kind]
theorem PN.len (p : PN) : p.cs.length = 2 := rfl
def kindT (t : ByteArray) : Int := if t.data.toList = [84, 105, 109, 101] then 5 else if t.data.toList = [73, 110, 116] then 2 else 1
def leftT (t : ByteArray) : ByteArray := ⟨(Lib.cut t.data.toList (⟨#[32]⟩ : ByteArray).data.toList).1.toArray⟩
def rightT (t : ByteArray) : ByteArray := ⟨(Lib.cut t.data.toList (⟨#[32]⟩ : ByteArray).data.toList).2.1.toArray⟩
def pinT (t : ByteArray) : PN := ⟨leftT t, kindT (rightT t)⟩
def piecesT (s : ByteArray) : List ByteArray := Lib.splitB ⟨#[44, 32]⟩ 0 (Lib.countB s ⟨#[44, 32]⟩) s
def pinsL (s : ByteArray) : List PN := (piecesT s).map pinT
abbrev pinV (l : List PN) : List Value := l.flatMap PN.cs
def pinOkB (s : ByteArray) : Bool := decide (s.size < 4294967281) && decide ((piecesT s).length = Lib.countB s ⟨#[44, 32]⟩ + 1) && decide ((piecesT s).length ≤ 100) && (piecesT s).all fun t => decide (t.size < 4294967281)
theorem pin_info : (Tryd.prog.info? 89).map (fun i => (i.zero, i.size, i.bytes)) = some (some (.agg #[.string ByteArray.empty, .int .i64 0]), 2, 24) := by kernel_rfl
/-- a fresh list of pins -/
def FreshP (w w' : World) (v : Value) (l : List PN) : Prop := ∃ A c, v = .slice A l.length c ∧ w'.ownsRow w.heap.size 89 2 (.slice A l.length c) l.length (pinV l) ∧ Below w.heap.size w w'

set_option maxRecDepth 100000 in
set_option maxHeartbeats 3200000 in
theorem pins_any (s : ByteArray) (m : Int) (w : World) (hm : w.cell? ⟨0, 0, none⟩ = some (.int .i64 m)) (hs : pinOkB s = true) :
    Calls Tryd.prog 52 #[.string s] w fun e w' => ∃ v, e = .returned v ∧ FreshP w w' v (pinsL s) := by
  obtain ⟨j0, hyi, hy0, hy1, hy2⟩ := info_parts pin_info
  simp only [pinOkB, Bool.and_eq_true, decide_eq_true_eq, List.all_eq_true] at hs
  obtain ⟨⟨⟨hs1, hs2⟩, hs3⟩, hs4⟩ := hs
  have h0 := lt_of_cell hm
  have HM := Lib.hid hm
  have HP := Lib.hid hs4
  have hlen : (pinsL s).length = (piecesT s).length := by simp [pinsL]
  obtain ⟨N, hN⟩ : ∃ N, (piecesT s).length = N := ⟨_, rfl⟩
  rw [hN] at hs2 hs3 hlen
  have HS : Hid (Calls Tryd.prog 53 #[.string s, .string ⟨#[44, 32]⟩] w fun e w' => e = .returned (.slice (some ⟨w.heap.size, 0, none⟩) N N) ∧ w' = w.alloc (.cells ((piecesT s).map Value.string).toArray 9)) := by
    have h := Tryd.strings_Split s ⟨#[44, 32]⟩ m w hs1 hm (by decide)
    rw [← hs2] at h
    exact h
  have HL := Lib.hid hlen
  have HN := Lib.hid hN
  clear hm hs1 hs4 hlen hN
  go_enter Tryd.func52, Tryd.ntmps52
  go_wp2_with fail
  refine HS.out.mono ?_
  rintro e w1 ⟨rfl, rfl⟩
  have M0 : Hid (Mem w (w.alloc (.cells ((piecesT s).map Value.string).toArray 9)) [⟨w.heap.size, 9, ((piecesT s).map Value.string).toArray⟩] [⟨89, 2, none, 0, 0, pinV ((pinsL s).take 0)⟩]) :=
    (((Mem.start w).alloc 9 ((piecesT s).map Value.string).toArray)).nilO _ _
  obtain ⟨g, hg⟩ : ∃ g, w.heap.size = g := ⟨_, rfl⟩
  clear HS hs2
  dsimp only
  generalize World.alloc _ _ = w1 at M0 ⊢
  rw [hg] at M0 ⊢
  clear hg
  go_wp2
  go_loopw [3, 13] (fun v3 v13 wr => ∃ k : Nat, k ≤ N ∧ v13 = .int .i64 k ∧ ∃ A c, v3 = .slice A k c ∧ Hid (Mem w wr [⟨g, 9, ((piecesT s).map Value.string).toArray⟩] [⟨89, 2, A, k, c, pinV ((pinsL s).take k)⟩])) (fun _ i _ => N - (intOf i).toNat)
  case atStart => exact ⟨0, Nat.zero_le _, rfl, none, 0, rfl, M0⟩
  case round =>
    clear M0
    obtain ⟨k, hk, rfl, A, c, rfl, M⟩ := hrel
    by_cases hlt : k < N
    · obtain ⟨t, ht⟩ : ∃ t, (piecesT s)[k]? = some t := ⟨_, List.getElem?_eq_getElem (by rw [HN.out]; exact hlt)⟩
      have ct : wr.cell? ⟨g, k, none⟩ = some (.string t) := by
        rw [M.out.cellK 0 rfl k]
        simp [ht]
      have hk0 : (0 : Int) ≤ (k : Int) := by omega
      have hkn : (k : Int) < (N : Int) := by omega
      have HC := Lib.hid (Tryd.strings_Cut t ⟨#[32]⟩ m wr (HP.out t (List.mem_of_getElem? ht)) ((M.out.bel.cell h0).trans HM.out))
      have HE : Hid (pinV ((pinsL s).take (k + 1)) = pinV ((pinsL s).take k) ++ [.string (leftT t), .int .i64 (kindT (rightT t))]) := by
        have h1 : (pinsL s)[k]? = some (pinT t) := by simp [pinsL, ht]
        show _ = _
        rw [List.take_add_one, h1]
        simp [pinV, PN.cs, pinT]
      clear ht
      go_wp2_with fail
      refine HC.out.mono ?_
      rintro e w2 ⟨rfl, q, rfl⟩
      have M1 : Hid (Mem w (wr.drewN q) [⟨g, 9, ((piecesT s).map Value.string).toArray⟩] [⟨89, 2, A, k, c, pinV ((pinsL s).take k)⟩]) := M.out.drewN q
      clear HC M ct
      generalize wr.drewN q = w2 at M1 ⊢
      dsimp only
      rw [show (⟨(Lib.cut t.data.toList [32]).fst.toArray⟩ : ByteArray) = leftT t from rfl, show (⟨(Lib.cut t.data.toList [32]).snd.fst.toArray⟩ : ByteArray) = rightT t from rfl]
      generalize (Lib.cut t.data.toList [32]).snd.snd = fnd
      generalize leftT t = L at HE ⊢
      generalize rightT t = R at HE ⊢
      have hb := M1.out.base
      by_cases h1 : R.data.toList = [84, 105, 109, 101]
      · rw [show kindT R = 5 from by simp [kindT, h1]] at HE
        have b1 := str_eq h1
        clear h1
        go_wp2_with (at_builtin; refine wpList_append_rd _ rfl (.tmp 28) (.tmp 32) 76 rfl w.heap.size 89 j0 _ 2 24 Tryd.underlying76 hyi hy0 hy1 hy2 rfl (by omega) _ k (pinV ((pinsL s).take k)) rfl ((M1.out.rowO 0 rfl).alloc _) _ 1 1 [.string L, .int .i64 5] rfl (rd_newR _ _ _) ?_ ?_ ?_ ?_ ?_)
        · intro u hu
          simp at hu
          rcases hu with rfl | rfl <;> rfl
        · unfold maxLen; omega
        · have := M1.out.base; omega
        · have := M1.out.base; simp; omega
        intro v3 w3 ho3 hg3 hat3
        obtain ⟨A', c', rfl, _⟩ := own_shape ho3
        rw [← HE.out] at ho3
        have M3 := Lib.hid (M1.out.appd hg3 ho3 hat3)
        clear ho3 hg3 hat3 M1
        go_wp2
        go_roundw
        case rel => exact ⟨k + 1, by omega, by go_num, A', c', rfl, M3⟩
        case measure => simp [intOf]; omega
      · by_cases h2 : R.data.toList = [73, 110, 116]
        · rw [show kindT R = 2 from by simp [kindT, h2]] at HE
          have b1 := str_ne h1
          have b2 := str_eq h2
          clear h1 h2
          go_wp2_with (at_builtin; refine wpList_append_rd _ rfl (.tmp 28) (.tmp 32) 76 rfl w.heap.size 89 j0 _ 2 24 Tryd.underlying76 hyi hy0 hy1 hy2 rfl (by omega) _ k (pinV ((pinsL s).take k)) rfl ((M1.out.rowO 0 rfl).alloc _) _ 1 1 [.string L, .int .i64 2] rfl (rd_newR _ _ _) ?_ ?_ ?_ ?_ ?_)
          · intro u hu
            simp at hu
            rcases hu with rfl | rfl <;> rfl
          · unfold maxLen; omega
          · have := M1.out.base; omega
          · have := M1.out.base; simp; omega
          intro v3 w3 ho3 hg3 hat3
          obtain ⟨A', c', rfl, _⟩ := own_shape ho3
          rw [← HE.out] at ho3
          have M3 := Lib.hid (M1.out.appd hg3 ho3 hat3)
          clear ho3 hg3 hat3 M1
          go_wp2
          go_roundw
          case rel => exact ⟨k + 1, by omega, by go_num, A', c', rfl, M3⟩
          case measure => simp [intOf]; omega
        · rw [show kindT R = 1 from by simp [kindT, h1, h2]] at HE
          have b1 := str_ne h1
          have b2 := str_ne h2
          clear h1 h2
          go_wp2_with (at_builtin; refine wpList_append_rd _ rfl (.tmp 28) (.tmp 32) 76 rfl w.heap.size 89 j0 _ 2 24 Tryd.underlying76 hyi hy0 hy1 hy2 rfl (by omega) _ k (pinV ((pinsL s).take k)) rfl ((M1.out.rowO 0 rfl).alloc _) _ 1 1 [.string L, .int .i64 1] rfl (rd_newR _ _ _) ?_ ?_ ?_ ?_ ?_)
          · intro u hu
            simp at hu
            rcases hu with rfl | rfl <;> rfl
          · unfold maxLen; omega
          · have := M1.out.base; omega
          · have := M1.out.base; simp; omega
          intro v3 w3 ho3 hg3 hat3
          obtain ⟨A', c', rfl, _⟩ := own_shape ho3
          rw [← HE.out] at ho3
          have M3 := Lib.hid (M1.out.appd hg3 ho3 hat3)
          clear ho3 hg3 hat3 M1
          go_wp2
          go_roundw
          case rel => exact ⟨k + 1, by omega, by go_num, A', c', rfl, M3⟩
          case measure => simp [intOf]; omega
    · have hkN : k = N := by omega
      have hfull : (pinsL s).take k = pinsL s := List.take_of_length_le (by rw [HL.out]; omega)
      rw [hfull] at M
      have hkn : ¬ (k : Int) < (N : Int) := by omega
      have M2 := Lib.hid (And.intro M.out HL.out)
      clear M hfull
      go_wp2
      go_ret
      obtain ⟨m1, m2⟩ := M2.out
      subst hkN
      rw [← m2] at m1
      exact ⟨.slice A k c, rfl, A, c, by rw [m2], m1.rowO 0 rfl, m1.bel⟩
end Go.Proofs.YtiogcbckhaknmaaDoor.Blk
