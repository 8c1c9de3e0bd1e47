/-
  What timers share: load, words, begin, over. Conditions: the box and the row are the call's own.
-/
import Derived.Test.YthgjjclmepfbpaaDoorBlk6
import Derived.Test.YthgjjclmepfbpaaDoorBlk8
import Derived.Deep.RegionHeld3
import Derived.Deep.CutBlock
import Derived.Deep.DeepCutAuto
namespace Go.Proofs.YthgjjclmepfbpaaDoor.Blk
open Go.RowKit Go.Proofs.YthgjjclmepfbpaaDoor.W Go.Proofs.YthgjjclmepfbpaaDoor.Ints Go.Proofs.YthgjjclmepfbpaaDoor.Cell Go.Proofs.YthgjjclmepfbpaaDoor.Num

abbrev intR (A : Option Addr) (c : Nat) (l : List Int) : Row := ⟨3, 1, A, l.length, c, ints l⟩
abbrev c4 (a b c d : Int) : Array Value := #[.int .i64 a, .int .i64 b, .int .i64 c, .int .i64 d]
set_option maxRecDepth 100000 in
set_option maxHeartbeats 6400000 in
theorem load_clock {w0 w : World} {Ks : List Box} {Os : List Row} {g gf cf : Nat} {t : TypeId} {x0 x1 x2 x3 a b c d : Int} (h : Mem w0 w (⟨g, t, c4 x0 x1 x2 x3⟩ :: Ks) (intR (some ⟨gf, 0, none⟩) cf [a, b, c, d] :: Os)) :
    Calls Tryd.prog 64 #[.pointer (some ⟨g, 0, none⟩), .slice (some ⟨gf, 0, none⟩) 4 cf] w fun e w' => e = .returned (.tuple #[]) ∧ Mem w0 w' (⟨g, t, c4 a b c d⟩ :: Ks) (intR (some ⟨gf, 0, none⟩) cf [a, b, c, d] :: Os) := by
  have hne : gf ≠ g := h.dis _ (List.mem_cons_self ..) _ (List.mem_cons_self ..) _ rfl
  have hne2 : g ≠ gf := Ne.symm hne
  have M := Lib.hid h
  have bx := h.cellK 0 rfl
  have fx := h.frozenK 0 rfl
  have row := h.rowO 0 rfl
  have q0 : w.drew.cell? ⟨gf, 0, none⟩ = some (.int .i64 a) ∧ w.drew.cell? ⟨gf, 1, none⟩ = some (.int .i64 b) ∧ w.drew.cell? ⟨gf, 2, none⟩ = some (.int .i64 c) ∧ w.drew.cell? ⟨gf, 3, none⟩ = some (.int .i64 d) :=
    ⟨row.cellAt 0 (by simp), row.cellAt 1 (by simp), row.cellAt 2 (by simp), row.cellAt 3 (by simp)⟩
  have p0 : w.cell? ⟨gf, 0, none⟩ = some (.int .i64 a) ∧ w.cell? ⟨gf, 1, none⟩ = some (.int .i64 b) ∧ w.cell? ⟨gf, 2, none⟩ = some (.int .i64 c) ∧ w.cell? ⟨gf, 3, none⟩ = some (.int .i64 d) := q0
  obtain ⟨p1, p2, p3, p4⟩ := p0
  have MF := Lib.hid ((((h.set (i := 0) (.int .i64 a)).set (i := 1) (.int .i64 b)).set (i := 2) (.int .i64 c)).set (i := 3) (.int .i64 d)).drew
  clear row h
  go_enter Tryd.func64, Tryd.ntmps64
  go_region_held3 (fun w' => w'.cell? ⟨gf, 0, none⟩ = some (.int .i64 a) ∧ w'.cell? ⟨gf, 1, none⟩ = some (.int .i64 b) ∧ w'.cell? ⟨gf, 2, none⟩ = some (.int .i64 c) ∧ w'.cell? ⟨gf, 3, none⟩ = some (.int .i64 d))
    (first | with_reducible assumption | (refine ⟨?_, ?_, ?_, ?_⟩ <;> go_simp))
    (fail)
  go_end0
  exact ⟨rfl, MF.out⟩
set_option maxRecDepth 100000 in
set_option maxHeartbeats 6400000 in
theorem words_clock {w0 w : World} {Ks : List Box} {Os : List Row} {g : Nat} {t : TypeId} {a b c d : Int} (h : Mem w0 w (⟨g, t, c4 a b c d⟩ :: Ks) Os) :
    Calls Tryd.prog 66 #[.pointer (some ⟨g, 0, none⟩)] w fun e w' => ∃ g', e = .returned (.slice (some ⟨g', 0, none⟩) 4 4) ∧ Mem w0 w' (⟨g, t, c4 a b c d⟩ :: Ks) (intR (some ⟨g', 0, none⟩) 4 [a, b, c, d] :: Os) := by
  have bx := h.cellK 0 rfl
  have q0 : w.drew.cell? ⟨g, 0, none⟩ = some (.int .i64 a) ∧ w.drew.cell? ⟨g, 1, none⟩ = some (.int .i64 b) ∧ w.drew.cell? ⟨g, 2, none⟩ = some (.int .i64 c) ∧ w.drew.cell? ⟨g, 3, none⟩ = some (.int .i64 d) := ⟨bx 0, bx 1, bx 2, bx 3⟩
  have p1 : w.cell? ⟨g, 0, none⟩ = some (.int .i64 a) := bx 0
  have p2 : w.cell? ⟨g, 1, none⟩ = some (.int .i64 b) := bx 1
  have p3 : w.cell? ⟨g, 2, none⟩ = some (.int .i64 c) := bx 2
  have p4 : w.cell? ⟨g, 3, none⟩ = some (.int .i64 d) := bx 3
  have MF := Lib.hid ((h.alloc 3 (c4 a b c d)).drew.asRow (sz := 1) (n := 4) (xs := ints [a, b, c, d]) rfl rfl (by decide))
  have hlt := (h.ltK 0 rfl).2
  clear h bx
  go_enter Tryd.func66, Tryd.ntmps66
  go_upto_region 1 with fail
  go_region_held3 (fun w' => w'.cell? ⟨g, 0, none⟩ = some (.int .i64 a) ∧ w'.cell? ⟨g, 1, none⟩ = some (.int .i64 b) ∧ w'.cell? ⟨g, 2, none⟩ = some (.int .i64 c) ∧ w'.cell? ⟨g, 3, none⟩ = some (.int .i64 d))
    (first | with_reducible assumption | (refine ⟨?_, ?_, ?_, ?_⟩ <;> go_simp))
    (fail)
  go_wp2
  go_ret
  exact ⟨_, rfl, MF.out⟩
set_option maxRecDepth 100000 in
set_option maxHeartbeats 6400000 in
theorem begin_clock {w0 w : World} {Ks : List Box} {Os : List Row} {g : Nat} {t : TypeId} {a b c d now : Int} (h : Mem w0 w (⟨g, t, c4 a b c d⟩ :: Ks) Os) :
    Calls Tryd.prog 63 #[.pointer (some ⟨g, 0, none⟩), .int .i64 now] w fun e w' => e = .returned (.tuple #[]) ∧ Mem w0 w' (⟨g, t, c4 (if a = 0 then 1 else a) (if a = 0 then now else b) c d⟩ :: Ks) Os := by
  have p1 : w.cell? ⟨g, 0, none⟩ = some (.int .i64 a) := h.cellK 0 rfl 0
  have p2 : w.cell? ⟨g, 1, none⟩ = some (.int .i64 b) := h.cellK 0 rfl 1
  have fx := h.frozenK 0 rfl
  have M := Lib.hid h
  have MF := Lib.hid ((h.set (i := 0) (.int .i64 1)).set (i := 1) (.int .i64 now))
  clear h
  by_cases e : a = 0
  · subst e
    go_enter Tryd.func63, Tryd.ntmps63
    go_wp2
    go_end0
    exact ⟨rfl, MF.out⟩
  · have e1 : (a == 0) = false := by simpa using e
    rw [if_neg e, if_neg e]
    clear e
    go_enter Tryd.func63, Tryd.ntmps63
    go_wp2
    go_end0
    exact ⟨rfl, M.out⟩
/-- how far a timer is -/
def farF (now since pt : Int) : Int := min (wrapF 5 (now - since)) pt
set_option maxRecDepth 100000 in
set_option maxHeartbeats 6400000 in
theorem over_clock {w0 w : World} {Ks : List Box} {Os : List Row} {g : Nat} {t : TypeId} {a b c d now pt : Int} (h : Mem w0 w (⟨g, t, c4 a b c d⟩ :: Ks) Os) (hn : 0 ≤ now) (hn' : now ≤ 4294967295) (hb : 0 ≤ b) (hb' : b ≤ 4294967295) :
    Calls Tryd.prog 67 #[.pointer (some ⟨g, 0, none⟩), .int .i64 now, .int .i64 pt] w fun e w' => e = .returned (.bool (farF now b pt == pt)) ∧ Mem w0 w' (⟨g, t, c4 a b c (farF now b pt)⟩ :: Ks) Os := by
  have p2 : w.cell? ⟨g, 1, none⟩ = some (.int .i64 b) := h.cellK 0 rfl 1
  have p4 : w.cell? ⟨g, 3, none⟩ = some (.int .i64 d) := h.cellK 0 rfl 3
  have fx := h.frozenK 0 rfl
  have hw : IntKind.i64.wrap (now - b) = now - b := by simp [IntKind.wrap, IntKind.bits, IntKind.signed]; omega
  obtain ⟨x, hx⟩ : ∃ x, wrapF 5 (now - b) = x := ⟨_, rfl⟩
  unfold farF
  rw [hx]
  have HX := Lib.hid hx
  clear hx
  have MF := Lib.hid (h.set (i := 3) (.int .i64 (min x pt)))
  clear h
  go_enter Tryd.func67, Tryd.ntmps67
  go_wp2_with fail
  refine (Wrap_any 5 (now - b) _ (by omega) (by omega)).mono ?_
  rintro e w1 ⟨rfl, rfl⟩
  dsimp only
  rw [HX.out]
  clear hw hn hn' hb hb'
  go_wp2
  go_ret
  exact ⟨rfl, MF.out⟩
end Go.Proofs.YthgjjclmepfbpaaDoor.Blk
