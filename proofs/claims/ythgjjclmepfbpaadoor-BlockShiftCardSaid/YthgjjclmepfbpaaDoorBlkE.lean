/-
  Blocks of one word: load, words, the steps of ramp and hyst. Conditions: the box and the row are the call's own; numbers lie within 16 bits.
-/
import Derived.Test.YthgjjclmepfbpaaDoorBlkA
import Derived.BigQuiet
import Derived.BigRegion
namespace Go.Proofs.YthgjjclmepfbpaaDoor.Blk
open Go.RowKit Go.Proofs.YthgjjclmepfbpaaDoor.W Go.Proofs.YthgjjclmepfbpaaDoor.Ints Go.Proofs.YthgjjclmepfbpaaDoor.Cell Go.Proofs.YthgjjclmepfbpaaDoor.Num

theorem load_single {w0 w : World} {Ks : List Box} {Os : List Row} {g gf cf : Nat} {t : TypeId} {cs : Array Value} {x a : Int} (h : Mem w0 w (⟨g, t, cs⟩ :: Ks) (intR (some ⟨gf, 0, none⟩) cf [a] :: Os)) (hc : cs[0]? = some (.int .i64 x)) :
    Calls Tryd.prog 78 #[.pointer (some ⟨g, 0, none⟩), .slice (some ⟨gf, 0, none⟩) 1 cf] w fun e w' => e = .returned (.tuple #[]) ∧ Mem w0 w' (⟨g, t, cs.setIfInBounds 0 (.int .i64 a)⟩ :: Ks) (intR (some ⟨gf, 0, none⟩) cf [a] :: Os) := by
  have bx : w.cell? ⟨g, 0, none⟩ = some (.int .i64 x) := (h.cellK 0 rfl 0).trans hc
  have fx := h.frozenK 0 rfl
  have row := h.rowO 0 rfl
  have p1 : w.cell? ⟨gf, 0, none⟩ = some (.int .i64 a) := row.cellAt 0 (by simp)
  have MF := Lib.hid (h.set (i := 0) (.int .i64 a))
  clear row h hc
  go_enter Tryd.func78, Tryd.ntmps78
  go_wp2
  go_end0
  exact ⟨rfl, MF.out⟩
theorem words_single {w0 w : World} {Ks : List Box} {Os : List Row} {g : Nat} {t : TypeId} {cs : Array Value} {a : Int} (h : Mem w0 w (⟨g, t, cs⟩ :: Ks) Os) (hc : cs[0]? = some (.int .i64 a)) :
    Calls Tryd.prog 80 #[.pointer (some ⟨g, 0, none⟩)] w fun e w' => ∃ g', e = .returned (.slice (some ⟨g', 0, none⟩) 1 1) ∧ Mem w0 w' (⟨g, t, cs⟩ :: Ks) (intR (some ⟨g', 0, none⟩) 1 [a] :: Os) := by
  have bx : w.cell? ⟨g, 0, none⟩ = some (.int .i64 a) := (h.cellK 0 rfl 0).trans hc
  have MF := Lib.hid ((h.alloc 3 #[.int .i64 a]).asRow (sz := 1) (n := 1) (xs := ints [a]) rfl rfl (by decide))
  clear h hc
  go_enter Tryd.func80, Tryd.ntmps80
  go_wp2
  go_ret
  exact ⟨_, rfl, MF.out⟩
/-- a ramp's next word -/
def rampF (a x by_ : Int) : Int := max (min x (a + max by_ 0)) (a - max by_ 0)
set_option maxRecDepth 100000 in
set_option maxHeartbeats 12800000 in
theorem ramp_step {w0 w : World} {Ks : List Box} {Os : List Row} {g gi ci : Nat} {t : TypeId} {a x y now : Int} (h : Mem w0 w (⟨g, t, #[.int .i64 a]⟩ :: Ks) (intR (some ⟨gi, 0, none⟩) ci [x, y] :: Os)) (ha : -32768 ≤ a) (ha' : a ≤ 32767) (hy : -32768 ≤ y) (hy' : y ≤ 32767) :
    Calls Tryd.prog 82 #[.pointer (some ⟨g, 0, none⟩), .slice (some ⟨gi, 0, none⟩) 2 ci, .int .i64 now] w fun e w' => ∃ g', e = .returned (.slice (some ⟨g', 0, none⟩) 1 1) ∧ Mem w0 w' (⟨g, t, #[.int .i64 (rampF a x y)]⟩ :: Ks) (intR (some ⟨g', 0, none⟩) 1 [rampF a x y] :: intR (some ⟨gi, 0, none⟩) ci [x, y] :: Os) := by
  have hne : gi ≠ g := h.dis _ (List.mem_cons_self ..) _ (List.mem_cons_self ..) _ rfl
  have hne2 : g ≠ gi := Ne.symm hne
  unfold rampF
  obtain ⟨z, hz⟩ : ∃ z : Int, max y 0 = z := ⟨_, rfl⟩
  have hz1 : 0 ≤ z := by omega
  have hz2 : z ≤ 32767 := by omega
  rw [hz]
  obtain ⟨v, hv⟩ : ∃ v : Int, max (min x (a + z)) (a - z) = v := ⟨_, rfl⟩
  rw [hv]
  have hw1 : IntKind.i64.wrap (a + z) = a + z := by simp [IntKind.wrap, IntKind.bits, IntKind.signed]; omega
  have hw2 : IntKind.i64.wrap (a - z) = a - z := by simp [IntKind.wrap, IntKind.bits, IntKind.signed]; omega
  have bx : w.cell? ⟨g, 0, none⟩ = some (.int .i64 a) := h.cellK 0 rfl 0
  have fx := h.frozenK 0 rfl
  have row := h.rowO 0 rfl
  have r0 : w.cell? ⟨gi, 0, none⟩ = some (.int .i64 x) := row.cellAt 0 (by simp)
  have r1 : w.cell? ⟨gi, 1, none⟩ = some (.int .i64 y) := row.cellAt 1 (by simp)
  have q0 : w.drew.cell? ⟨gi, 0, none⟩ = some (.int .i64 x) := r0
  have bxd : w.drew.cell? ⟨g, 0, none⟩ = some (.int .i64 a) := bx
  have MS := Lib.hid (h.set (i := 0) (.int .i64 v)).drew
  have hgs := (h.ltK 0 rfl).2
  clear row h
  go_enter Tryd.func82, Tryd.ntmps82
  go_upto_region 2 with fail
  go_cut [] from 12 to 34 (fun wc => Hid (Mem w0 wc (⟨g, t, #[.int .i64 v]⟩ :: Ks) (intR (some ⟨gi, 0, none⟩) ci [x, y] :: Os)))
  case first =>
    go_region
    all_goals go_wp2
    all_goals go_meet
    all_goals exact MS
  case rest =>
    have M3 := hcut
    clear MS bx fx r0 r1 q0 bxd hw1 hw2 hz hv
    have bx : wc.cell? ⟨g, 0, none⟩ = some (.int .i64 v) := M3.out.cellK 0 rfl 0
    have MF := Lib.hid ((M3.out.alloc 3 #[.int .i64 v]).asRow (sz := 1) (n := 1) (xs := ints [v]) rfl rfl (by decide))
    clear M3
    go_wp2
    go_ret
    exact ⟨_, rfl, MF.out⟩
end Go.Proofs.YthgjjclmepfbpaaDoor.Blk
