/-
  What the rows' listed variables read as, as the walks want it; the walk of CellTexts as the frame wants it. No conditions.
-/
import Derived.Test.YtckjnlonijodcaaDoorTxJ
import Derived.LaidSub
import Derived.Lib.LaidTab
import Derived.Lib.LaidU8
import Derived.PinnedBridge
import Derived.LaidMore
namespace Go.Proofs.YtckjnlonijodcaaDoor.Tx
open Go.RowKit Go.Proofs.YtckjnlonijodcaaDoor.W Go.Proofs.YtckjnlonijodcaaDoor.Num Go.Proofs.YtckjnlonijodcaaDoor.Cell

theorem tab_of {W : World} (h : laidMet Tryd.prog Rows.cellTextsRow.laid W) : TabX W := by
  have h1 := laidMet.filter (fun x => x.1 == "internal/strconv.uint64pow10") h
  have e : Rows.cellTextsRow.laid.filter (fun x => x.1 == "internal/strconv.uint64pow10") = [("internal/strconv.uint64pow10", Lib.tabData .u64 Lib.pow10Tab)] := by kernel_rfl
  rw [e] at h1
  exact Lib.tabIs_of_head (g := 1) (t := 93) (e := 80) (n := 20) (by kernel_rfl) (by kernel_rfl) Tryd.underlying93 Tryd.underlying80 (by kernel_rfl) (by kernel_rfl) h1
def tzTab : List Int := [0, 1, 56, 2, 57, 49, 28, 3, 61, 58, 42, 50, 38, 29, 17, 4, 62, 47, 59, 36, 45, 43, 51, 22, 53, 39, 33, 30, 24, 18, 12, 5, 63, 55, 48, 27, 60, 41, 37, 16, 46, 35, 44, 21, 52, 32, 23, 11, 54, 26, 40, 15, 34, 20, 31, 10, 25, 14, 19, 9, 13, 8, 7, 6]
theorem tz_of {W : World} (h : laidMet Tryd.prog Rows.cellTextsRow.laid W) : TzX W := by
  have h1 := laidMet.filter (fun x => x.1 == "math/bits.deBruijn64tab") h
  have e : Rows.cellTextsRow.laid.filter (fun x => x.1 == "math/bits.deBruijn64tab") = [("math/bits.deBruijn64tab", Lib.tabData .u8 tzTab)] := by kernel_rfl
  rw [e] at h1
  have h2 := Lib.tabIs_of_head (P := Tryd.prog) (W := W) (g := 6) (t := 110) (e := 5) (n := 64) (by kernel_rfl) (by kernel_rfl) Tryd.underlying110 Tryd.underlying5 (by kernel_rfl) (by kernel_rfl) h1
  have h3 := h2.cell (g := 6) (by kernel_rfl) 15 (by decide)
  exact h3
theorem u8_of {W : World} (h : laidMet Tryd.prog Rows.cellTextsRow.laid W) : Lib.Utf8Tabs 2 3 W := by
  have h1 : Lib.VarReads Tryd.prog W "unicode/utf8.first" Lib.firstData := by
    rw [← Pinned.utf8First_eq]
    exact Lib.laidMet.reads h (.tail _ (.tail _ (.tail _ (.tail _ (.tail _ (.head _))))))
  have h2 : Lib.VarReads Tryd.prog W "unicode/utf8.acceptRanges" Lib.acceptData := by
    have e : (Rows.laid_unicode_utf8_acceptRanges : DataW Unit) = Lib.acceptData := by kernel_rfl
    rw [← e]
    exact Lib.laidMet.reads h (.tail _ (.tail _ (.tail _ (.head _))))
  exact utf8Tabs_of_reads (ρ := Tryd.lays260_ren) Tryd.lays260 ⟨by kernel_rfl, by kernel_rfl, by kernel_rfl, by kernel_rfl, by kernel_rfl, by kernel_rfl, by kernel_rfl⟩ h1 h2
theorem laid_all {W : World} (h : laidMetH Tryd.prog Rows.cellTextsRow.laid W) : TabX W ∧ Lib.Utf8Tabs 2 3 W ∧ TzX W := by
  rw [MakeChecks.laidMetH_plain _ _ _ (by kernel_rfl)] at h
  exact ⟨tab_of h, u8_of h, tz_of h⟩
theorem walk_Texts (H : Type) (_enc : TypeId × Value → H) (w : World) (hL : laidMetH Tryd.prog Rows.cellTextsRow.laid w) (k : Int) (_hk : (Lit.int .i64 k).wf = true) (n : Int) (hn : (Lit.int .i64 n).wf = true) (s : ByteArray) (hs : s.size ≤ reachBytes) :
    Calls Tryd.prog 3 #[.int .i64 k, .int .i64 n, .string s] w fun e w' => e = .returned (.bool true) ∧ Below w.heap.size w w' := by
  obtain ⟨h1, h2, h3⟩ := laid_all hL
  have hb : -9223372036854775808 ≤ n ∧ n ≤ 9223372036854775807 := by simpa [Lit.wf, IntKind.min, IntKind.max, IntKind.signed, IntKind.bits] using hn
  exact CellTexts_law k n s w hb.1 hb.2 (by unfold reachBytes at hs; unfold maxLen; omega) h2 h1 h3
end Go.Proofs.YtckjnlonijodcaaDoor.Tx
