/-
  The steps of latches. Conditions: the box and the row are the call's own.
-/
import Derived.Test.YthgjjclmepfbpaaDoorBlkE
namespace Go.Proofs.YthgjjclmepfbpaaDoor.Blk
open Go.RowKit Go.Proofs.YthgjjclmepfbpaaDoor.W Go.Proofs.YthgjjclmepfbpaaDoor.Ints Go.Proofs.YthgjjclmepfbpaaDoor.Cell Go.Proofs.YthgjjclmepfbpaaDoor.Num

set_option maxRecDepth 100000 in
set_option maxHeartbeats 12800000 in
theorem latch_r000 {w0 w : World} {Ks : List Box} {Os : List Row} {g gi ci : Nat} {t : TypeId} {now : Int} (h : Mem w0 w (⟨g, t, #[.int .i64 0, .bool true]⟩ :: Ks) (intR (some ⟨gi, 0, none⟩) ci [0, 0] :: Os)) :
    Calls Tryd.prog 81 #[.pointer (some ⟨g, 0, none⟩), .slice (some ⟨gi, 0, none⟩) 2 ci, .int .i64 now] w fun e w' => ∃ g', e = .returned (.slice (some ⟨g', 0, none⟩) 1 1) ∧ Mem w0 w' (⟨g, t, #[.int .i64 0, .bool true]⟩ :: Ks) (intR (some ⟨g', 0, none⟩) 1 [0] :: intR (some ⟨gi, 0, none⟩) ci [0, 0] :: Os) := by
  have hne : gi ≠ g := h.dis _ (List.mem_cons_self ..) _ (List.mem_cons_self ..) _ rfl
  have hne2 : g ≠ gi := Ne.symm hne
  have bx := h.cellK 0 rfl
  have fx := h.frozenK 0 rfl
  have row := h.rowO 0 rfl
  have r0 : w.cell? ⟨gi, 0, none⟩ = some (.int .i64 0) := row.cellAt 0 (by simp)
  have r1 : w.cell? ⟨gi, 1, none⟩ = some (.int .i64 0) := row.cellAt 1 (by simp)
  have MS : Hid (Mem w0 (w.setCell ⟨g, 0, none⟩ (.int .i64 0)).drew (⟨g, t, #[.int .i64 0, .bool true]⟩ :: Ks) (intR (some ⟨gi, 0, none⟩) ci [0, 0] :: Os)) := (h.set (i := 0) (.int .i64 0)).drew
  have bxd := h.drew.cellK 0 rfl
  clear h row
  go_enter Tryd.func81, Tryd.ntmps81
  go_upto_region 2 with fail
  go_cut [] from 11 to 44 (fun wc => Hid (Mem w0 wc (⟨g, t, #[.int .i64 0, .bool true]⟩ :: Ks) (intR (some ⟨gi, 0, none⟩) ci [0, 0] :: Os)))
  case first =>
    go_region
    all_goals go_wp2
    all_goals go_meet
    all_goals exact MS
  case rest =>
    have M3 := hcut
    clear MS bx fx r0 r1 bxd
    obtain ⟨w3, hw3⟩ : ∃ w3 : World, w3 = wc := ⟨_, rfl⟩
    subst hw3
    have bx : w3.cell? ⟨g, 0, none⟩ = some (.int .i64 0) := M3.out.cellK 0 rfl 0
    have MF := Lib.hid ((M3.out.alloc 3 #[.int .i64 0]).asRow (sz := 1) (n := 1) (xs := ints [0]) rfl rfl (by decide))
    clear M3
    go_wp2
    go_ret
    exact ⟨_, rfl, MF.out⟩

set_option maxRecDepth 100000 in
set_option maxHeartbeats 12800000 in
theorem latch_r001 {w0 w : World} {Ks : List Box} {Os : List Row} {g gi ci : Nat} {t : TypeId} {now : Int} (h : Mem w0 w (⟨g, t, #[.int .i64 1, .bool true]⟩ :: Ks) (intR (some ⟨gi, 0, none⟩) ci [0, 0] :: Os)) :
    Calls Tryd.prog 81 #[.pointer (some ⟨g, 0, none⟩), .slice (some ⟨gi, 0, none⟩) 2 ci, .int .i64 now] w fun e w' => ∃ g', e = .returned (.slice (some ⟨g', 0, none⟩) 1 1) ∧ Mem w0 w' (⟨g, t, #[.int .i64 1, .bool true]⟩ :: Ks) (intR (some ⟨g', 0, none⟩) 1 [1] :: intR (some ⟨gi, 0, none⟩) ci [0, 0] :: Os) := by
  have hne : gi ≠ g := h.dis _ (List.mem_cons_self ..) _ (List.mem_cons_self ..) _ rfl
  have hne2 : g ≠ gi := Ne.symm hne
  have bx := h.cellK 0 rfl
  have fx := h.frozenK 0 rfl
  have row := h.rowO 0 rfl
  have r0 : w.cell? ⟨gi, 0, none⟩ = some (.int .i64 0) := row.cellAt 0 (by simp)
  have r1 : w.cell? ⟨gi, 1, none⟩ = some (.int .i64 0) := row.cellAt 1 (by simp)
  have MS : Hid (Mem w0 (w.setCell ⟨g, 0, none⟩ (.int .i64 1)).drew (⟨g, t, #[.int .i64 1, .bool true]⟩ :: Ks) (intR (some ⟨gi, 0, none⟩) ci [0, 0] :: Os)) := (h.set (i := 0) (.int .i64 1)).drew
  have bxd := h.drew.cellK 0 rfl
  clear h row
  go_enter Tryd.func81, Tryd.ntmps81
  go_upto_region 2 with fail
  go_cut [] from 11 to 44 (fun wc => Hid (Mem w0 wc (⟨g, t, #[.int .i64 1, .bool true]⟩ :: Ks) (intR (some ⟨gi, 0, none⟩) ci [0, 0] :: Os)))
  case first =>
    go_region
    all_goals go_wp2
    all_goals go_meet
    all_goals exact MS
  case rest =>
    have M3 := hcut
    clear MS bx fx r0 r1 bxd
    obtain ⟨w3, hw3⟩ : ∃ w3 : World, w3 = wc := ⟨_, rfl⟩
    subst hw3
    have bx : w3.cell? ⟨g, 0, none⟩ = some (.int .i64 1) := M3.out.cellK 0 rfl 0
    have MF := Lib.hid ((M3.out.alloc 3 #[.int .i64 1]).asRow (sz := 1) (n := 1) (xs := ints [1]) rfl rfl (by decide))
    clear M3
    go_wp2
    go_ret
    exact ⟨_, rfl, MF.out⟩

set_option maxRecDepth 100000 in
set_option maxHeartbeats 12800000 in
theorem latch_r010 {w0 w : World} {Ks : List Box} {Os : List Row} {g gi ci : Nat} {t : TypeId} {now : Int} (h : Mem w0 w (⟨g, t, #[.int .i64 0, .bool true]⟩ :: Ks) (intR (some ⟨gi, 0, none⟩) ci [0, 1] :: Os)) :
    Calls Tryd.prog 81 #[.pointer (some ⟨g, 0, none⟩), .slice (some ⟨gi, 0, none⟩) 2 ci, .int .i64 now] w fun e w' => ∃ g', e = .returned (.slice (some ⟨g', 0, none⟩) 1 1) ∧ Mem w0 w' (⟨g, t, #[.int .i64 0, .bool true]⟩ :: Ks) (intR (some ⟨g', 0, none⟩) 1 [0] :: intR (some ⟨gi, 0, none⟩) ci [0, 1] :: Os) := by
  have hne : gi ≠ g := h.dis _ (List.mem_cons_self ..) _ (List.mem_cons_self ..) _ rfl
  have hne2 : g ≠ gi := Ne.symm hne
  have bx := h.cellK 0 rfl
  have fx := h.frozenK 0 rfl
  have row := h.rowO 0 rfl
  have r0 : w.cell? ⟨gi, 0, none⟩ = some (.int .i64 0) := row.cellAt 0 (by simp)
  have r1 : w.cell? ⟨gi, 1, none⟩ = some (.int .i64 1) := row.cellAt 1 (by simp)
  have MS : Hid (Mem w0 (w.setCell ⟨g, 0, none⟩ (.int .i64 0)).drew (⟨g, t, #[.int .i64 0, .bool true]⟩ :: Ks) (intR (some ⟨gi, 0, none⟩) ci [0, 1] :: Os)) := (h.set (i := 0) (.int .i64 0)).drew
  have bxd := h.drew.cellK 0 rfl
  clear h row
  go_enter Tryd.func81, Tryd.ntmps81
  go_upto_region 2 with fail
  go_cut [] from 11 to 44 (fun wc => Hid (Mem w0 wc (⟨g, t, #[.int .i64 0, .bool true]⟩ :: Ks) (intR (some ⟨gi, 0, none⟩) ci [0, 1] :: Os)))
  case first =>
    go_region
    all_goals go_wp2
    all_goals go_meet
    all_goals exact MS
  case rest =>
    have M3 := hcut
    clear MS bx fx r0 r1 bxd
    obtain ⟨w3, hw3⟩ : ∃ w3 : World, w3 = wc := ⟨_, rfl⟩
    subst hw3
    have bx : w3.cell? ⟨g, 0, none⟩ = some (.int .i64 0) := M3.out.cellK 0 rfl 0
    have MF := Lib.hid ((M3.out.alloc 3 #[.int .i64 0]).asRow (sz := 1) (n := 1) (xs := ints [0]) rfl rfl (by decide))
    clear M3
    go_wp2
    go_ret
    exact ⟨_, rfl, MF.out⟩

set_option maxRecDepth 100000 in
set_option maxHeartbeats 12800000 in
theorem latch_r011 {w0 w : World} {Ks : List Box} {Os : List Row} {g gi ci : Nat} {t : TypeId} {now : Int} (h : Mem w0 w (⟨g, t, #[.int .i64 1, .bool true]⟩ :: Ks) (intR (some ⟨gi, 0, none⟩) ci [0, 1] :: Os)) :
    Calls Tryd.prog 81 #[.pointer (some ⟨g, 0, none⟩), .slice (some ⟨gi, 0, none⟩) 2 ci, .int .i64 now] w fun e w' => ∃ g', e = .returned (.slice (some ⟨g', 0, none⟩) 1 1) ∧ Mem w0 w' (⟨g, t, #[.int .i64 0, .bool true]⟩ :: Ks) (intR (some ⟨g', 0, none⟩) 1 [0] :: intR (some ⟨gi, 0, none⟩) ci [0, 1] :: Os) := by
  have hne : gi ≠ g := h.dis _ (List.mem_cons_self ..) _ (List.mem_cons_self ..) _ rfl
  have hne2 : g ≠ gi := Ne.symm hne
  have bx := h.cellK 0 rfl
  have fx := h.frozenK 0 rfl
  have row := h.rowO 0 rfl
  have r0 : w.cell? ⟨gi, 0, none⟩ = some (.int .i64 0) := row.cellAt 0 (by simp)
  have r1 : w.cell? ⟨gi, 1, none⟩ = some (.int .i64 1) := row.cellAt 1 (by simp)
  have MS : Hid (Mem w0 (w.setCell ⟨g, 0, none⟩ (.int .i64 0)).drew (⟨g, t, #[.int .i64 0, .bool true]⟩ :: Ks) (intR (some ⟨gi, 0, none⟩) ci [0, 1] :: Os)) := (h.set (i := 0) (.int .i64 0)).drew
  have bxd := h.drew.cellK 0 rfl
  clear h row
  go_enter Tryd.func81, Tryd.ntmps81
  go_upto_region 2 with fail
  go_cut [] from 11 to 44 (fun wc => Hid (Mem w0 wc (⟨g, t, #[.int .i64 0, .bool true]⟩ :: Ks) (intR (some ⟨gi, 0, none⟩) ci [0, 1] :: Os)))
  case first =>
    go_region
    all_goals go_wp2
    all_goals go_meet
    all_goals exact MS
  case rest =>
    have M3 := hcut
    clear MS bx fx r0 r1 bxd
    obtain ⟨w3, hw3⟩ : ∃ w3 : World, w3 = wc := ⟨_, rfl⟩
    subst hw3
    have bx : w3.cell? ⟨g, 0, none⟩ = some (.int .i64 0) := M3.out.cellK 0 rfl 0
    have MF := Lib.hid ((M3.out.alloc 3 #[.int .i64 0]).asRow (sz := 1) (n := 1) (xs := ints [0]) rfl rfl (by decide))
    clear M3
    go_wp2
    go_ret
    exact ⟨_, rfl, MF.out⟩

set_option maxRecDepth 100000 in
set_option maxHeartbeats 12800000 in
theorem latch_r100 {w0 w : World} {Ks : List Box} {Os : List Row} {g gi ci : Nat} {t : TypeId} {now : Int} (h : Mem w0 w (⟨g, t, #[.int .i64 0, .bool true]⟩ :: Ks) (intR (some ⟨gi, 0, none⟩) ci [1, 0] :: Os)) :
    Calls Tryd.prog 81 #[.pointer (some ⟨g, 0, none⟩), .slice (some ⟨gi, 0, none⟩) 2 ci, .int .i64 now] w fun e w' => ∃ g', e = .returned (.slice (some ⟨g', 0, none⟩) 1 1) ∧ Mem w0 w' (⟨g, t, #[.int .i64 1, .bool true]⟩ :: Ks) (intR (some ⟨g', 0, none⟩) 1 [1] :: intR (some ⟨gi, 0, none⟩) ci [1, 0] :: Os) := by
  have hne : gi ≠ g := h.dis _ (List.mem_cons_self ..) _ (List.mem_cons_self ..) _ rfl
  have hne2 : g ≠ gi := Ne.symm hne
  have bx := h.cellK 0 rfl
  have fx := h.frozenK 0 rfl
  have row := h.rowO 0 rfl
  have r0 : w.cell? ⟨gi, 0, none⟩ = some (.int .i64 1) := row.cellAt 0 (by simp)
  have r1 : w.cell? ⟨gi, 1, none⟩ = some (.int .i64 0) := row.cellAt 1 (by simp)
  have MS : Hid (Mem w0 (w.setCell ⟨g, 0, none⟩ (.int .i64 1)).drew (⟨g, t, #[.int .i64 1, .bool true]⟩ :: Ks) (intR (some ⟨gi, 0, none⟩) ci [1, 0] :: Os)) := (h.set (i := 0) (.int .i64 1)).drew
  have bxd := h.drew.cellK 0 rfl
  clear h row
  go_enter Tryd.func81, Tryd.ntmps81
  go_upto_region 2 with fail
  go_cut [] from 11 to 44 (fun wc => Hid (Mem w0 wc (⟨g, t, #[.int .i64 1, .bool true]⟩ :: Ks) (intR (some ⟨gi, 0, none⟩) ci [1, 0] :: Os)))
  case first =>
    go_region
    all_goals go_wp2
    all_goals go_meet
    all_goals exact MS
  case rest =>
    have M3 := hcut
    clear MS bx fx r0 r1 bxd
    obtain ⟨w3, hw3⟩ : ∃ w3 : World, w3 = wc := ⟨_, rfl⟩
    subst hw3
    have bx : w3.cell? ⟨g, 0, none⟩ = some (.int .i64 1) := M3.out.cellK 0 rfl 0
    have MF := Lib.hid ((M3.out.alloc 3 #[.int .i64 1]).asRow (sz := 1) (n := 1) (xs := ints [1]) rfl rfl (by decide))
    clear M3
    go_wp2
    go_ret
    exact ⟨_, rfl, MF.out⟩

set_option maxRecDepth 100000 in
set_option maxHeartbeats 12800000 in
theorem latch_r101 {w0 w : World} {Ks : List Box} {Os : List Row} {g gi ci : Nat} {t : TypeId} {now : Int} (h : Mem w0 w (⟨g, t, #[.int .i64 1, .bool true]⟩ :: Ks) (intR (some ⟨gi, 0, none⟩) ci [1, 0] :: Os)) :
    Calls Tryd.prog 81 #[.pointer (some ⟨g, 0, none⟩), .slice (some ⟨gi, 0, none⟩) 2 ci, .int .i64 now] w fun e w' => ∃ g', e = .returned (.slice (some ⟨g', 0, none⟩) 1 1) ∧ Mem w0 w' (⟨g, t, #[.int .i64 1, .bool true]⟩ :: Ks) (intR (some ⟨g', 0, none⟩) 1 [1] :: intR (some ⟨gi, 0, none⟩) ci [1, 0] :: Os) := by
  have hne : gi ≠ g := h.dis _ (List.mem_cons_self ..) _ (List.mem_cons_self ..) _ rfl
  have hne2 : g ≠ gi := Ne.symm hne
  have bx := h.cellK 0 rfl
  have fx := h.frozenK 0 rfl
  have row := h.rowO 0 rfl
  have r0 : w.cell? ⟨gi, 0, none⟩ = some (.int .i64 1) := row.cellAt 0 (by simp)
  have r1 : w.cell? ⟨gi, 1, none⟩ = some (.int .i64 0) := row.cellAt 1 (by simp)
  have MS : Hid (Mem w0 (w.setCell ⟨g, 0, none⟩ (.int .i64 1)).drew (⟨g, t, #[.int .i64 1, .bool true]⟩ :: Ks) (intR (some ⟨gi, 0, none⟩) ci [1, 0] :: Os)) := (h.set (i := 0) (.int .i64 1)).drew
  have bxd := h.drew.cellK 0 rfl
  clear h row
  go_enter Tryd.func81, Tryd.ntmps81
  go_upto_region 2 with fail
  go_cut [] from 11 to 44 (fun wc => Hid (Mem w0 wc (⟨g, t, #[.int .i64 1, .bool true]⟩ :: Ks) (intR (some ⟨gi, 0, none⟩) ci [1, 0] :: Os)))
  case first =>
    go_region
    all_goals go_wp2
    all_goals go_meet
    all_goals exact MS
  case rest =>
    have M3 := hcut
    clear MS bx fx r0 r1 bxd
    obtain ⟨w3, hw3⟩ : ∃ w3 : World, w3 = wc := ⟨_, rfl⟩
    subst hw3
    have bx : w3.cell? ⟨g, 0, none⟩ = some (.int .i64 1) := M3.out.cellK 0 rfl 0
    have MF := Lib.hid ((M3.out.alloc 3 #[.int .i64 1]).asRow (sz := 1) (n := 1) (xs := ints [1]) rfl rfl (by decide))
    clear M3
    go_wp2
    go_ret
    exact ⟨_, rfl, MF.out⟩

set_option maxRecDepth 100000 in
set_option maxHeartbeats 12800000 in
theorem latch_r110 {w0 w : World} {Ks : List Box} {Os : List Row} {g gi ci : Nat} {t : TypeId} {now : Int} (h : Mem w0 w (⟨g, t, #[.int .i64 0, .bool true]⟩ :: Ks) (intR (some ⟨gi, 0, none⟩) ci [1, 1] :: Os)) :
    Calls Tryd.prog 81 #[.pointer (some ⟨g, 0, none⟩), .slice (some ⟨gi, 0, none⟩) 2 ci, .int .i64 now] w fun e w' => ∃ g', e = .returned (.slice (some ⟨g', 0, none⟩) 1 1) ∧ Mem w0 w' (⟨g, t, #[.int .i64 0, .bool true]⟩ :: Ks) (intR (some ⟨g', 0, none⟩) 1 [0] :: intR (some ⟨gi, 0, none⟩) ci [1, 1] :: Os) := by
  have hne : gi ≠ g := h.dis _ (List.mem_cons_self ..) _ (List.mem_cons_self ..) _ rfl
  have hne2 : g ≠ gi := Ne.symm hne
  have bx := h.cellK 0 rfl
  have fx := h.frozenK 0 rfl
  have row := h.rowO 0 rfl
  have r0 : w.cell? ⟨gi, 0, none⟩ = some (.int .i64 1) := row.cellAt 0 (by simp)
  have r1 : w.cell? ⟨gi, 1, none⟩ = some (.int .i64 1) := row.cellAt 1 (by simp)
  have MS : Hid (Mem w0 (w.setCell ⟨g, 0, none⟩ (.int .i64 0)).drew (⟨g, t, #[.int .i64 0, .bool true]⟩ :: Ks) (intR (some ⟨gi, 0, none⟩) ci [1, 1] :: Os)) := (h.set (i := 0) (.int .i64 0)).drew
  have bxd := h.drew.cellK 0 rfl
  clear h row
  go_enter Tryd.func81, Tryd.ntmps81
  go_upto_region 2 with fail
  go_cut [] from 11 to 44 (fun wc => Hid (Mem w0 wc (⟨g, t, #[.int .i64 0, .bool true]⟩ :: Ks) (intR (some ⟨gi, 0, none⟩) ci [1, 1] :: Os)))
  case first =>
    go_region
    all_goals go_wp2
    all_goals go_meet
    all_goals exact MS
  case rest =>
    have M3 := hcut
    clear MS bx fx r0 r1 bxd
    obtain ⟨w3, hw3⟩ : ∃ w3 : World, w3 = wc := ⟨_, rfl⟩
    subst hw3
    have bx : w3.cell? ⟨g, 0, none⟩ = some (.int .i64 0) := M3.out.cellK 0 rfl 0
    have MF := Lib.hid ((M3.out.alloc 3 #[.int .i64 0]).asRow (sz := 1) (n := 1) (xs := ints [0]) rfl rfl (by decide))
    clear M3
    go_wp2
    go_ret
    exact ⟨_, rfl, MF.out⟩

set_option maxRecDepth 100000 in
set_option maxHeartbeats 12800000 in
theorem latch_r111 {w0 w : World} {Ks : List Box} {Os : List Row} {g gi ci : Nat} {t : TypeId} {now : Int} (h : Mem w0 w (⟨g, t, #[.int .i64 1, .bool true]⟩ :: Ks) (intR (some ⟨gi, 0, none⟩) ci [1, 1] :: Os)) :
    Calls Tryd.prog 81 #[.pointer (some ⟨g, 0, none⟩), .slice (some ⟨gi, 0, none⟩) 2 ci, .int .i64 now] w fun e w' => ∃ g', e = .returned (.slice (some ⟨g', 0, none⟩) 1 1) ∧ Mem w0 w' (⟨g, t, #[.int .i64 0, .bool true]⟩ :: Ks) (intR (some ⟨g', 0, none⟩) 1 [0] :: intR (some ⟨gi, 0, none⟩) ci [1, 1] :: Os) := by
  have hne : gi ≠ g := h.dis _ (List.mem_cons_self ..) _ (List.mem_cons_self ..) _ rfl
  have hne2 : g ≠ gi := Ne.symm hne
  have bx := h.cellK 0 rfl
  have fx := h.frozenK 0 rfl
  have row := h.rowO 0 rfl
  have r0 : w.cell? ⟨gi, 0, none⟩ = some (.int .i64 1) := row.cellAt 0 (by simp)
  have r1 : w.cell? ⟨gi, 1, none⟩ = some (.int .i64 1) := row.cellAt 1 (by simp)
  have MS : Hid (Mem w0 (w.setCell ⟨g, 0, none⟩ (.int .i64 0)).drew (⟨g, t, #[.int .i64 0, .bool true]⟩ :: Ks) (intR (some ⟨gi, 0, none⟩) ci [1, 1] :: Os)) := (h.set (i := 0) (.int .i64 0)).drew
  have bxd := h.drew.cellK 0 rfl
  clear h row
  go_enter Tryd.func81, Tryd.ntmps81
  go_upto_region 2 with fail
  go_cut [] from 11 to 44 (fun wc => Hid (Mem w0 wc (⟨g, t, #[.int .i64 0, .bool true]⟩ :: Ks) (intR (some ⟨gi, 0, none⟩) ci [1, 1] :: Os)))
  case first =>
    go_region
    all_goals go_wp2
    all_goals go_meet
    all_goals exact MS
  case rest =>
    have M3 := hcut
    clear MS bx fx r0 r1 bxd
    obtain ⟨w3, hw3⟩ : ∃ w3 : World, w3 = wc := ⟨_, rfl⟩
    subst hw3
    have bx : w3.cell? ⟨g, 0, none⟩ = some (.int .i64 0) := M3.out.cellK 0 rfl 0
    have MF := Lib.hid ((M3.out.alloc 3 #[.int .i64 0]).asRow (sz := 1) (n := 1) (xs := ints [0]) rfl rfl (by decide))
    clear M3
    go_wp2
    go_ret
    exact ⟨_, rfl, MF.out⟩

set_option maxRecDepth 100000 in
set_option maxHeartbeats 12800000 in
theorem latch_s000 {w0 w : World} {Ks : List Box} {Os : List Row} {g gi ci : Nat} {t : TypeId} {now : Int} (h : Mem w0 w (⟨g, t, #[.int .i64 0, .bool false]⟩ :: Ks) (intR (some ⟨gi, 0, none⟩) ci [0, 0] :: Os)) :
    Calls Tryd.prog 81 #[.pointer (some ⟨g, 0, none⟩), .slice (some ⟨gi, 0, none⟩) 2 ci, .int .i64 now] w fun e w' => ∃ g', e = .returned (.slice (some ⟨g', 0, none⟩) 1 1) ∧ Mem w0 w' (⟨g, t, #[.int .i64 0, .bool false]⟩ :: Ks) (intR (some ⟨g', 0, none⟩) 1 [0] :: intR (some ⟨gi, 0, none⟩) ci [0, 0] :: Os) := by
  have hne : gi ≠ g := h.dis _ (List.mem_cons_self ..) _ (List.mem_cons_self ..) _ rfl
  have hne2 : g ≠ gi := Ne.symm hne
  have bx := h.cellK 0 rfl
  have fx := h.frozenK 0 rfl
  have row := h.rowO 0 rfl
  have r0 : w.cell? ⟨gi, 0, none⟩ = some (.int .i64 0) := row.cellAt 0 (by simp)
  have r1 : w.cell? ⟨gi, 1, none⟩ = some (.int .i64 0) := row.cellAt 1 (by simp)
  have MS : Hid (Mem w0 (w.setCell ⟨g, 0, none⟩ (.int .i64 0)).drew (⟨g, t, #[.int .i64 0, .bool false]⟩ :: Ks) (intR (some ⟨gi, 0, none⟩) ci [0, 0] :: Os)) := (h.set (i := 0) (.int .i64 0)).drew
  have bxd := h.drew.cellK 0 rfl
  clear h row
  go_enter Tryd.func81, Tryd.ntmps81
  go_upto_region 3 with fail
  go_cut [] from 11 to 44 (fun wc => Hid (Mem w0 wc (⟨g, t, #[.int .i64 0, .bool false]⟩ :: Ks) (intR (some ⟨gi, 0, none⟩) ci [0, 0] :: Os)))
  case first =>
    go_region
    all_goals go_wp2
    all_goals go_meet
    all_goals exact MS
  case rest =>
    have M3 := hcut
    clear MS bx fx r0 r1 bxd
    obtain ⟨w3, hw3⟩ : ∃ w3 : World, w3 = wc := ⟨_, rfl⟩
    subst hw3
    have bx : w3.cell? ⟨g, 0, none⟩ = some (.int .i64 0) := M3.out.cellK 0 rfl 0
    have MF := Lib.hid ((M3.out.alloc 3 #[.int .i64 0]).asRow (sz := 1) (n := 1) (xs := ints [0]) rfl rfl (by decide))
    clear M3
    go_wp2
    go_ret
    exact ⟨_, rfl, MF.out⟩

set_option maxRecDepth 100000 in
set_option maxHeartbeats 12800000 in
theorem latch_s001 {w0 w : World} {Ks : List Box} {Os : List Row} {g gi ci : Nat} {t : TypeId} {now : Int} (h : Mem w0 w (⟨g, t, #[.int .i64 1, .bool false]⟩ :: Ks) (intR (some ⟨gi, 0, none⟩) ci [0, 0] :: Os)) :
    Calls Tryd.prog 81 #[.pointer (some ⟨g, 0, none⟩), .slice (some ⟨gi, 0, none⟩) 2 ci, .int .i64 now] w fun e w' => ∃ g', e = .returned (.slice (some ⟨g', 0, none⟩) 1 1) ∧ Mem w0 w' (⟨g, t, #[.int .i64 1, .bool false]⟩ :: Ks) (intR (some ⟨g', 0, none⟩) 1 [1] :: intR (some ⟨gi, 0, none⟩) ci [0, 0] :: Os) := by
  have hne : gi ≠ g := h.dis _ (List.mem_cons_self ..) _ (List.mem_cons_self ..) _ rfl
  have hne2 : g ≠ gi := Ne.symm hne
  have bx := h.cellK 0 rfl
  have fx := h.frozenK 0 rfl
  have row := h.rowO 0 rfl
  have r0 : w.cell? ⟨gi, 0, none⟩ = some (.int .i64 0) := row.cellAt 0 (by simp)
  have r1 : w.cell? ⟨gi, 1, none⟩ = some (.int .i64 0) := row.cellAt 1 (by simp)
  have MS : Hid (Mem w0 (w.setCell ⟨g, 0, none⟩ (.int .i64 1)).drew (⟨g, t, #[.int .i64 1, .bool false]⟩ :: Ks) (intR (some ⟨gi, 0, none⟩) ci [0, 0] :: Os)) := (h.set (i := 0) (.int .i64 1)).drew
  have bxd := h.drew.cellK 0 rfl
  clear h row
  go_enter Tryd.func81, Tryd.ntmps81
  go_upto_region 3 with fail
  go_cut [] from 11 to 44 (fun wc => Hid (Mem w0 wc (⟨g, t, #[.int .i64 1, .bool false]⟩ :: Ks) (intR (some ⟨gi, 0, none⟩) ci [0, 0] :: Os)))
  case first =>
    go_region
    all_goals go_wp2
    all_goals go_meet
    all_goals exact MS
  case rest =>
    have M3 := hcut
    clear MS bx fx r0 r1 bxd
    obtain ⟨w3, hw3⟩ : ∃ w3 : World, w3 = wc := ⟨_, rfl⟩
    subst hw3
    have bx : w3.cell? ⟨g, 0, none⟩ = some (.int .i64 1) := M3.out.cellK 0 rfl 0
    have MF := Lib.hid ((M3.out.alloc 3 #[.int .i64 1]).asRow (sz := 1) (n := 1) (xs := ints [1]) rfl rfl (by decide))
    clear M3
    go_wp2
    go_ret
    exact ⟨_, rfl, MF.out⟩

set_option maxRecDepth 100000 in
set_option maxHeartbeats 12800000 in
theorem latch_s010 {w0 w : World} {Ks : List Box} {Os : List Row} {g gi ci : Nat} {t : TypeId} {now : Int} (h : Mem w0 w (⟨g, t, #[.int .i64 0, .bool false]⟩ :: Ks) (intR (some ⟨gi, 0, none⟩) ci [0, 1] :: Os)) :
    Calls Tryd.prog 81 #[.pointer (some ⟨g, 0, none⟩), .slice (some ⟨gi, 0, none⟩) 2 ci, .int .i64 now] w fun e w' => ∃ g', e = .returned (.slice (some ⟨g', 0, none⟩) 1 1) ∧ Mem w0 w' (⟨g, t, #[.int .i64 0, .bool false]⟩ :: Ks) (intR (some ⟨g', 0, none⟩) 1 [0] :: intR (some ⟨gi, 0, none⟩) ci [0, 1] :: Os) := by
  have hne : gi ≠ g := h.dis _ (List.mem_cons_self ..) _ (List.mem_cons_self ..) _ rfl
  have hne2 : g ≠ gi := Ne.symm hne
  have bx := h.cellK 0 rfl
  have fx := h.frozenK 0 rfl
  have row := h.rowO 0 rfl
  have r0 : w.cell? ⟨gi, 0, none⟩ = some (.int .i64 0) := row.cellAt 0 (by simp)
  have r1 : w.cell? ⟨gi, 1, none⟩ = some (.int .i64 1) := row.cellAt 1 (by simp)
  have MS : Hid (Mem w0 (w.setCell ⟨g, 0, none⟩ (.int .i64 0)).drew (⟨g, t, #[.int .i64 0, .bool false]⟩ :: Ks) (intR (some ⟨gi, 0, none⟩) ci [0, 1] :: Os)) := (h.set (i := 0) (.int .i64 0)).drew
  have bxd := h.drew.cellK 0 rfl
  clear h row
  go_enter Tryd.func81, Tryd.ntmps81
  go_upto_region 3 with fail
  go_cut [] from 11 to 44 (fun wc => Hid (Mem w0 wc (⟨g, t, #[.int .i64 0, .bool false]⟩ :: Ks) (intR (some ⟨gi, 0, none⟩) ci [0, 1] :: Os)))
  case first =>
    go_region
    all_goals go_wp2
    all_goals go_meet
    all_goals exact MS
  case rest =>
    have M3 := hcut
    clear MS bx fx r0 r1 bxd
    obtain ⟨w3, hw3⟩ : ∃ w3 : World, w3 = wc := ⟨_, rfl⟩
    subst hw3
    have bx : w3.cell? ⟨g, 0, none⟩ = some (.int .i64 0) := M3.out.cellK 0 rfl 0
    have MF := Lib.hid ((M3.out.alloc 3 #[.int .i64 0]).asRow (sz := 1) (n := 1) (xs := ints [0]) rfl rfl (by decide))
    clear M3
    go_wp2
    go_ret
    exact ⟨_, rfl, MF.out⟩

set_option maxRecDepth 100000 in
set_option maxHeartbeats 12800000 in
theorem latch_s011 {w0 w : World} {Ks : List Box} {Os : List Row} {g gi ci : Nat} {t : TypeId} {now : Int} (h : Mem w0 w (⟨g, t, #[.int .i64 1, .bool false]⟩ :: Ks) (intR (some ⟨gi, 0, none⟩) ci [0, 1] :: Os)) :
    Calls Tryd.prog 81 #[.pointer (some ⟨g, 0, none⟩), .slice (some ⟨gi, 0, none⟩) 2 ci, .int .i64 now] w fun e w' => ∃ g', e = .returned (.slice (some ⟨g', 0, none⟩) 1 1) ∧ Mem w0 w' (⟨g, t, #[.int .i64 0, .bool false]⟩ :: Ks) (intR (some ⟨g', 0, none⟩) 1 [0] :: intR (some ⟨gi, 0, none⟩) ci [0, 1] :: Os) := by
  have hne : gi ≠ g := h.dis _ (List.mem_cons_self ..) _ (List.mem_cons_self ..) _ rfl
  have hne2 : g ≠ gi := Ne.symm hne
  have bx := h.cellK 0 rfl
  have fx := h.frozenK 0 rfl
  have row := h.rowO 0 rfl
  have r0 : w.cell? ⟨gi, 0, none⟩ = some (.int .i64 0) := row.cellAt 0 (by simp)
  have r1 : w.cell? ⟨gi, 1, none⟩ = some (.int .i64 1) := row.cellAt 1 (by simp)
  have MS : Hid (Mem w0 (w.setCell ⟨g, 0, none⟩ (.int .i64 0)).drew (⟨g, t, #[.int .i64 0, .bool false]⟩ :: Ks) (intR (some ⟨gi, 0, none⟩) ci [0, 1] :: Os)) := (h.set (i := 0) (.int .i64 0)).drew
  have bxd := h.drew.cellK 0 rfl
  clear h row
  go_enter Tryd.func81, Tryd.ntmps81
  go_upto_region 3 with fail
  go_cut [] from 11 to 44 (fun wc => Hid (Mem w0 wc (⟨g, t, #[.int .i64 0, .bool false]⟩ :: Ks) (intR (some ⟨gi, 0, none⟩) ci [0, 1] :: Os)))
  case first =>
    go_region
    all_goals go_wp2
    all_goals go_meet
    all_goals exact MS
  case rest =>
    have M3 := hcut
    clear MS bx fx r0 r1 bxd
    obtain ⟨w3, hw3⟩ : ∃ w3 : World, w3 = wc := ⟨_, rfl⟩
    subst hw3
    have bx : w3.cell? ⟨g, 0, none⟩ = some (.int .i64 0) := M3.out.cellK 0 rfl 0
    have MF := Lib.hid ((M3.out.alloc 3 #[.int .i64 0]).asRow (sz := 1) (n := 1) (xs := ints [0]) rfl rfl (by decide))
    clear M3
    go_wp2
    go_ret
    exact ⟨_, rfl, MF.out⟩

set_option maxRecDepth 100000 in
set_option maxHeartbeats 12800000 in
theorem latch_s100 {w0 w : World} {Ks : List Box} {Os : List Row} {g gi ci : Nat} {t : TypeId} {now : Int} (h : Mem w0 w (⟨g, t, #[.int .i64 0, .bool false]⟩ :: Ks) (intR (some ⟨gi, 0, none⟩) ci [1, 0] :: Os)) :
    Calls Tryd.prog 81 #[.pointer (some ⟨g, 0, none⟩), .slice (some ⟨gi, 0, none⟩) 2 ci, .int .i64 now] w fun e w' => ∃ g', e = .returned (.slice (some ⟨g', 0, none⟩) 1 1) ∧ Mem w0 w' (⟨g, t, #[.int .i64 1, .bool false]⟩ :: Ks) (intR (some ⟨g', 0, none⟩) 1 [1] :: intR (some ⟨gi, 0, none⟩) ci [1, 0] :: Os) := by
  have hne : gi ≠ g := h.dis _ (List.mem_cons_self ..) _ (List.mem_cons_self ..) _ rfl
  have hne2 : g ≠ gi := Ne.symm hne
  have bx := h.cellK 0 rfl
  have fx := h.frozenK 0 rfl
  have row := h.rowO 0 rfl
  have r0 : w.cell? ⟨gi, 0, none⟩ = some (.int .i64 1) := row.cellAt 0 (by simp)
  have r1 : w.cell? ⟨gi, 1, none⟩ = some (.int .i64 0) := row.cellAt 1 (by simp)
  have MS : Hid (Mem w0 (w.setCell ⟨g, 0, none⟩ (.int .i64 1)).drew (⟨g, t, #[.int .i64 1, .bool false]⟩ :: Ks) (intR (some ⟨gi, 0, none⟩) ci [1, 0] :: Os)) := (h.set (i := 0) (.int .i64 1)).drew
  have bxd := h.drew.cellK 0 rfl
  clear h row
  go_enter Tryd.func81, Tryd.ntmps81
  go_upto_region 3 with fail
  go_cut [] from 11 to 44 (fun wc => Hid (Mem w0 wc (⟨g, t, #[.int .i64 1, .bool false]⟩ :: Ks) (intR (some ⟨gi, 0, none⟩) ci [1, 0] :: Os)))
  case first =>
    go_region
    all_goals go_wp2
    all_goals go_meet
    all_goals exact MS
  case rest =>
    have M3 := hcut
    clear MS bx fx r0 r1 bxd
    obtain ⟨w3, hw3⟩ : ∃ w3 : World, w3 = wc := ⟨_, rfl⟩
    subst hw3
    have bx : w3.cell? ⟨g, 0, none⟩ = some (.int .i64 1) := M3.out.cellK 0 rfl 0
    have MF := Lib.hid ((M3.out.alloc 3 #[.int .i64 1]).asRow (sz := 1) (n := 1) (xs := ints [1]) rfl rfl (by decide))
    clear M3
    go_wp2
    go_ret
    exact ⟨_, rfl, MF.out⟩

set_option maxRecDepth 100000 in
set_option maxHeartbeats 12800000 in
theorem latch_s101 {w0 w : World} {Ks : List Box} {Os : List Row} {g gi ci : Nat} {t : TypeId} {now : Int} (h : Mem w0 w (⟨g, t, #[.int .i64 1, .bool false]⟩ :: Ks) (intR (some ⟨gi, 0, none⟩) ci [1, 0] :: Os)) :
    Calls Tryd.prog 81 #[.pointer (some ⟨g, 0, none⟩), .slice (some ⟨gi, 0, none⟩) 2 ci, .int .i64 now] w fun e w' => ∃ g', e = .returned (.slice (some ⟨g', 0, none⟩) 1 1) ∧ Mem w0 w' (⟨g, t, #[.int .i64 1, .bool false]⟩ :: Ks) (intR (some ⟨g', 0, none⟩) 1 [1] :: intR (some ⟨gi, 0, none⟩) ci [1, 0] :: Os) := by
  have hne : gi ≠ g := h.dis _ (List.mem_cons_self ..) _ (List.mem_cons_self ..) _ rfl
  have hne2 : g ≠ gi := Ne.symm hne
  have bx := h.cellK 0 rfl
  have fx := h.frozenK 0 rfl
  have row := h.rowO 0 rfl
  have r0 : w.cell? ⟨gi, 0, none⟩ = some (.int .i64 1) := row.cellAt 0 (by simp)
  have r1 : w.cell? ⟨gi, 1, none⟩ = some (.int .i64 0) := row.cellAt 1 (by simp)
  have MS : Hid (Mem w0 (w.setCell ⟨g, 0, none⟩ (.int .i64 1)).drew (⟨g, t, #[.int .i64 1, .bool false]⟩ :: Ks) (intR (some ⟨gi, 0, none⟩) ci [1, 0] :: Os)) := (h.set (i := 0) (.int .i64 1)).drew
  have bxd := h.drew.cellK 0 rfl
  clear h row
  go_enter Tryd.func81, Tryd.ntmps81
  go_upto_region 3 with fail
  go_cut [] from 11 to 44 (fun wc => Hid (Mem w0 wc (⟨g, t, #[.int .i64 1, .bool false]⟩ :: Ks) (intR (some ⟨gi, 0, none⟩) ci [1, 0] :: Os)))
  case first =>
    go_region
    all_goals go_wp2
    all_goals go_meet
    all_goals exact MS
  case rest =>
    have M3 := hcut
    clear MS bx fx r0 r1 bxd
    obtain ⟨w3, hw3⟩ : ∃ w3 : World, w3 = wc := ⟨_, rfl⟩
    subst hw3
    have bx : w3.cell? ⟨g, 0, none⟩ = some (.int .i64 1) := M3.out.cellK 0 rfl 0
    have MF := Lib.hid ((M3.out.alloc 3 #[.int .i64 1]).asRow (sz := 1) (n := 1) (xs := ints [1]) rfl rfl (by decide))
    clear M3
    go_wp2
    go_ret
    exact ⟨_, rfl, MF.out⟩

set_option maxRecDepth 100000 in
set_option maxHeartbeats 12800000 in
theorem latch_s110 {w0 w : World} {Ks : List Box} {Os : List Row} {g gi ci : Nat} {t : TypeId} {now : Int} (h : Mem w0 w (⟨g, t, #[.int .i64 0, .bool false]⟩ :: Ks) (intR (some ⟨gi, 0, none⟩) ci [1, 1] :: Os)) :
    Calls Tryd.prog 81 #[.pointer (some ⟨g, 0, none⟩), .slice (some ⟨gi, 0, none⟩) 2 ci, .int .i64 now] w fun e w' => ∃ g', e = .returned (.slice (some ⟨g', 0, none⟩) 1 1) ∧ Mem w0 w' (⟨g, t, #[.int .i64 1, .bool false]⟩ :: Ks) (intR (some ⟨g', 0, none⟩) 1 [1] :: intR (some ⟨gi, 0, none⟩) ci [1, 1] :: Os) := by
  have hne : gi ≠ g := h.dis _ (List.mem_cons_self ..) _ (List.mem_cons_self ..) _ rfl
  have hne2 : g ≠ gi := Ne.symm hne
  have bx := h.cellK 0 rfl
  have fx := h.frozenK 0 rfl
  have row := h.rowO 0 rfl
  have r0 : w.cell? ⟨gi, 0, none⟩ = some (.int .i64 1) := row.cellAt 0 (by simp)
  have r1 : w.cell? ⟨gi, 1, none⟩ = some (.int .i64 1) := row.cellAt 1 (by simp)
  have MS : Hid (Mem w0 (w.setCell ⟨g, 0, none⟩ (.int .i64 1)).drew (⟨g, t, #[.int .i64 1, .bool false]⟩ :: Ks) (intR (some ⟨gi, 0, none⟩) ci [1, 1] :: Os)) := (h.set (i := 0) (.int .i64 1)).drew
  have bxd := h.drew.cellK 0 rfl
  clear h row
  go_enter Tryd.func81, Tryd.ntmps81
  go_upto_region 3 with fail
  go_cut [] from 11 to 44 (fun wc => Hid (Mem w0 wc (⟨g, t, #[.int .i64 1, .bool false]⟩ :: Ks) (intR (some ⟨gi, 0, none⟩) ci [1, 1] :: Os)))
  case first =>
    go_region
    all_goals go_wp2
    all_goals go_meet
    all_goals exact MS
  case rest =>
    have M3 := hcut
    clear MS bx fx r0 r1 bxd
    obtain ⟨w3, hw3⟩ : ∃ w3 : World, w3 = wc := ⟨_, rfl⟩
    subst hw3
    have bx : w3.cell? ⟨g, 0, none⟩ = some (.int .i64 1) := M3.out.cellK 0 rfl 0
    have MF := Lib.hid ((M3.out.alloc 3 #[.int .i64 1]).asRow (sz := 1) (n := 1) (xs := ints [1]) rfl rfl (by decide))
    clear M3
    go_wp2
    go_ret
    exact ⟨_, rfl, MF.out⟩

set_option maxRecDepth 100000 in
set_option maxHeartbeats 12800000 in
theorem latch_s111 {w0 w : World} {Ks : List Box} {Os : List Row} {g gi ci : Nat} {t : TypeId} {now : Int} (h : Mem w0 w (⟨g, t, #[.int .i64 1, .bool false]⟩ :: Ks) (intR (some ⟨gi, 0, none⟩) ci [1, 1] :: Os)) :
    Calls Tryd.prog 81 #[.pointer (some ⟨g, 0, none⟩), .slice (some ⟨gi, 0, none⟩) 2 ci, .int .i64 now] w fun e w' => ∃ g', e = .returned (.slice (some ⟨g', 0, none⟩) 1 1) ∧ Mem w0 w' (⟨g, t, #[.int .i64 1, .bool false]⟩ :: Ks) (intR (some ⟨g', 0, none⟩) 1 [1] :: intR (some ⟨gi, 0, none⟩) ci [1, 1] :: Os) := by
  have hne : gi ≠ g := h.dis _ (List.mem_cons_self ..) _ (List.mem_cons_self ..) _ rfl
  have hne2 : g ≠ gi := Ne.symm hne
  have bx := h.cellK 0 rfl
  have fx := h.frozenK 0 rfl
  have row := h.rowO 0 rfl
  have r0 : w.cell? ⟨gi, 0, none⟩ = some (.int .i64 1) := row.cellAt 0 (by simp)
  have r1 : w.cell? ⟨gi, 1, none⟩ = some (.int .i64 1) := row.cellAt 1 (by simp)
  have MS : Hid (Mem w0 (w.setCell ⟨g, 0, none⟩ (.int .i64 1)).drew (⟨g, t, #[.int .i64 1, .bool false]⟩ :: Ks) (intR (some ⟨gi, 0, none⟩) ci [1, 1] :: Os)) := (h.set (i := 0) (.int .i64 1)).drew
  have bxd := h.drew.cellK 0 rfl
  clear h row
  go_enter Tryd.func81, Tryd.ntmps81
  go_upto_region 3 with fail
  go_cut [] from 11 to 44 (fun wc => Hid (Mem w0 wc (⟨g, t, #[.int .i64 1, .bool false]⟩ :: Ks) (intR (some ⟨gi, 0, none⟩) ci [1, 1] :: Os)))
  case first =>
    go_region
    all_goals go_wp2
    all_goals go_meet
    all_goals exact MS
  case rest =>
    have M3 := hcut
    clear MS bx fx r0 r1 bxd
    obtain ⟨w3, hw3⟩ : ∃ w3 : World, w3 = wc := ⟨_, rfl⟩
    subst hw3
    have bx : w3.cell? ⟨g, 0, none⟩ = some (.int .i64 1) := M3.out.cellK 0 rfl 0
    have MF := Lib.hid ((M3.out.alloc 3 #[.int .i64 1]).asRow (sz := 1) (n := 1) (xs := ints [1]) rfl rfl (by decide))
    clear M3
    go_wp2
    go_ret
    exact ⟨_, rfl, MF.out⟩

end Go.Proofs.YthgjjclmepfbpaaDoor.Blk
