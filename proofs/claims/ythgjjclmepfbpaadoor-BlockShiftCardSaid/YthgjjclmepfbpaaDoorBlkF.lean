/-
  The steps of hyst, of edges and latches. Conditions: the box and the row are the call's own.
-/
import Derived.Test.YthgjjclmepfbpaaDoorBlkE
namespace Go.Proofs.YthgjjclmepfbpaaDoor.Blk
open Go.RowKit Go.Proofs.YthgjjclmepfbpaaDoor.W Go.Proofs.YthgjjclmepfbpaaDoor.Ints Go.Proofs.YthgjjclmepfbpaaDoor.Cell Go.Proofs.YthgjjclmepfbpaaDoor.Num

set_option maxRecDepth 100000 in
set_option maxHeartbeats 12800000 in
theorem hyst_hi {w0 w : World} {Ks : List Box} {Os : List Row} {g gi ci : Nat} {t : TypeId} {a x y z now : Int} (h : Mem w0 w (⟨g, t, #[.int .i64 a]⟩ :: Ks) (intR (some ⟨gi, 0, none⟩) ci [x, y, z] :: Os)) (h1 : y ≤ x) :
    Calls Tryd.prog 83 #[.pointer (some ⟨g, 0, none⟩), .slice (some ⟨gi, 0, none⟩) 3 ci, .int .i64 now] w fun e w' => ∃ g', e = .returned (.slice (some ⟨g', 0, none⟩) 1 1) ∧ Mem w0 w' (⟨g, t, #[.int .i64 1]⟩ :: Ks) (intR (some ⟨g', 0, none⟩) 1 [1] :: intR (some ⟨gi, 0, none⟩) ci [x, y, z] :: Os) := by
  have hne : gi ≠ g := h.dis _ (List.mem_cons_self ..) _ (List.mem_cons_self ..) _ rfl
  have hne2 : g ≠ gi := Ne.symm hne
  have bx := h.cellK 0 rfl
  have fx := h.frozenK 0 rfl
  have row := h.rowO 0 rfl
  have r0 : w.cell? ⟨gi, 0, none⟩ = some (.int .i64 x) := row.cellAt 0 (by simp)
  have r1 : w.cell? ⟨gi, 1, none⟩ = some (.int .i64 y) := row.cellAt 1 (by simp)
  have r2 : w.cell? ⟨gi, 2, none⟩ = some (.int .i64 z) := row.cellAt 2 (by simp)
  have d1 : decide (y ≤ x) = true := by simpa using h1
  have MS := Lib.hid (fun q => (h.drewN q).set (i := 0) (.int .i64 1))
  have hgl := (h.ltK 0 rfl).2
  clear h row
  go_enter Tryd.func83, Tryd.ntmps83
  go_upto_region 1 with fail
  go_quiet (fail)
  go_upto_region 5 with fail
  have M3 : Hid (Mem w0 ((w.drewN nq).setCell ⟨g, 0, none⟩ (.int .i64 1)) (⟨g, t, #[.int .i64 1]⟩ :: Ks) (intR (some ⟨gi, 0, none⟩) ci [x, y, z] :: Os)) := MS.out nq
  generalize World.setCell _ _ _ = w3 at M3 ⊢
  clear MS bx fx r0 r1 r2
  have bx : w3.cell? ⟨g, 0, none⟩ = some (.int .i64 1) := M3.out.cellK 0 rfl 0
  have MF := Lib.hid ((M3.out.alloc 3 #[.int .i64 1]).asRow (sz := 1) (n := 1) (xs := ints [1]) rfl rfl (by decide))
  clear M3
  go_wp2
  go_ret
  exact ⟨_, rfl, MF.out⟩

set_option maxRecDepth 100000 in
set_option maxHeartbeats 12800000 in
theorem hyst_lo {w0 w : World} {Ks : List Box} {Os : List Row} {g gi ci : Nat} {t : TypeId} {a x y z now : Int} (h : Mem w0 w (⟨g, t, #[.int .i64 a]⟩ :: Ks) (intR (some ⟨gi, 0, none⟩) ci [x, y, z] :: Os)) (h1 : ¬ y ≤ x) (h2 : x ≤ z) :
    Calls Tryd.prog 83 #[.pointer (some ⟨g, 0, none⟩), .slice (some ⟨gi, 0, none⟩) 3 ci, .int .i64 now] w fun e w' => ∃ g', e = .returned (.slice (some ⟨g', 0, none⟩) 1 1) ∧ Mem w0 w' (⟨g, t, #[.int .i64 0]⟩ :: Ks) (intR (some ⟨g', 0, none⟩) 1 [0] :: intR (some ⟨gi, 0, none⟩) ci [x, y, z] :: Os) := by
  have hne : gi ≠ g := h.dis _ (List.mem_cons_self ..) _ (List.mem_cons_self ..) _ rfl
  have hne2 : g ≠ gi := Ne.symm hne
  have bx := h.cellK 0 rfl
  have fx := h.frozenK 0 rfl
  have row := h.rowO 0 rfl
  have r0 : w.cell? ⟨gi, 0, none⟩ = some (.int .i64 x) := row.cellAt 0 (by simp)
  have r1 : w.cell? ⟨gi, 1, none⟩ = some (.int .i64 y) := row.cellAt 1 (by simp)
  have r2 : w.cell? ⟨gi, 2, none⟩ = some (.int .i64 z) := row.cellAt 2 (by simp)
  have d1 : decide (y ≤ x) = false := by simpa using h1
  have d2 : decide (x ≤ z) = true := by simpa using h2
  have MS := Lib.hid (fun q => (h.drewN q).set (i := 0) (.int .i64 0))
  have hgl := (h.ltK 0 rfl).2
  clear h row
  go_enter Tryd.func83, Tryd.ntmps83
  go_upto_region 1 with fail
  go_quiet (fail)
  obtain ⟨n1, hn1⟩ : ∃ n, n = nq := ⟨_, rfl⟩
  subst hn1
  go_upto_region 3 with fail
  go_quiet (fail)
  go_upto_region 5 with fail
  have M3 : Hid (Mem w0 ((w.drewN (n1 + nq)).setCell ⟨g, 0, none⟩ (.int .i64 0)) (⟨g, t, #[.int .i64 0]⟩ :: Ks) (intR (some ⟨gi, 0, none⟩) ci [x, y, z] :: Os)) := MS.out (n1 + nq)
  generalize World.setCell _ _ _ = w3 at M3 ⊢
  clear MS bx fx r0 r1 r2
  have bx : w3.cell? ⟨g, 0, none⟩ = some (.int .i64 0) := M3.out.cellK 0 rfl 0
  have MF := Lib.hid ((M3.out.alloc 3 #[.int .i64 0]).asRow (sz := 1) (n := 1) (xs := ints [0]) rfl rfl (by decide))
  clear M3
  go_wp2
  go_ret
  exact ⟨_, rfl, MF.out⟩

set_option maxRecDepth 100000 in
set_option maxHeartbeats 12800000 in
theorem hyst_mid {w0 w : World} {Ks : List Box} {Os : List Row} {g gi ci : Nat} {t : TypeId} {a x y z now : Int} (h : Mem w0 w (⟨g, t, #[.int .i64 a]⟩ :: Ks) (intR (some ⟨gi, 0, none⟩) ci [x, y, z] :: Os)) (h1 : ¬ y ≤ x) (h2 : ¬ x ≤ z) :
    Calls Tryd.prog 83 #[.pointer (some ⟨g, 0, none⟩), .slice (some ⟨gi, 0, none⟩) 3 ci, .int .i64 now] w fun e w' => ∃ g', e = .returned (.slice (some ⟨g', 0, none⟩) 1 1) ∧ Mem w0 w' (⟨g, t, #[.int .i64 a]⟩ :: Ks) (intR (some ⟨g', 0, none⟩) 1 [a] :: intR (some ⟨gi, 0, none⟩) ci [x, y, z] :: Os) := by
  have hne : gi ≠ g := h.dis _ (List.mem_cons_self ..) _ (List.mem_cons_self ..) _ rfl
  have hne2 : g ≠ gi := Ne.symm hne
  have bx := h.cellK 0 rfl
  have fx := h.frozenK 0 rfl
  have row := h.rowO 0 rfl
  have r0 : w.cell? ⟨gi, 0, none⟩ = some (.int .i64 x) := row.cellAt 0 (by simp)
  have r1 : w.cell? ⟨gi, 1, none⟩ = some (.int .i64 y) := row.cellAt 1 (by simp)
  have r2 : w.cell? ⟨gi, 2, none⟩ = some (.int .i64 z) := row.cellAt 2 (by simp)
  have d1 : decide (y ≤ x) = false := by simpa using h1
  have d2 : decide (x ≤ z) = false := by simpa using h2
  have MS := Lib.hid (fun q1 q2 => (h.drewN q1).drewN q2)
  have hgl := (h.ltK 0 rfl).2
  clear h row
  go_enter Tryd.func83, Tryd.ntmps83
  go_upto_region 1 with fail
  go_quiet (fail)
  obtain ⟨n1, hn1⟩ : ∃ n, n = nq := ⟨_, rfl⟩
  subst hn1
  go_upto_region 3 with fail
  go_quiet (fail)
  go_upto_region 5 with fail
  have M3 := Lib.hid (MS.out n1 nq)
  generalize World.drewN (World.drewN _ _) _ = w3 at M3 ⊢
  clear MS bx fx r0 r1 r2
  have bx : w3.cell? ⟨g, 0, none⟩ = some (.int .i64 a) := M3.out.cellK 0 rfl 0
  have MF := Lib.hid ((M3.out.alloc 3 #[.int .i64 a]).asRow (sz := 1) (n := 1) (xs := ints [a]) rfl rfl (by decide))
  clear M3
  go_wp2
  go_ret
  exact ⟨_, rfl, MF.out⟩

set_option maxRecDepth 100000 in
set_option maxHeartbeats 12800000 in
theorem edge_r00 {w0 w : World} {Ks : List Box} {Os : List Row} {g gi ci : Nat} {t : TypeId} {now : Int} (h : Mem w0 w (⟨g, t, #[.int .i64 0, .bool true]⟩ :: Ks) (intR (some ⟨gi, 0, none⟩) ci [0] :: Os)) :
    Calls Tryd.prog 79 #[.pointer (some ⟨g, 0, none⟩), .slice (some ⟨gi, 0, none⟩) 1 ci, .int .i64 now] w fun e w' => ∃ g', e = .returned (.slice (some ⟨g', 0, none⟩) 1 1) ∧ Mem w0 w' (⟨g, t, #[.int .i64 0, .bool true]⟩ :: Ks) (intR (some ⟨g', 0, none⟩) 1 [0] :: intR (some ⟨gi, 0, none⟩) ci [0] :: Os) := by
  have hne : gi ≠ g := h.dis _ (List.mem_cons_self ..) _ (List.mem_cons_self ..) _ rfl
  have hne2 : g ≠ gi := Ne.symm hne
  have bx := h.cellK 0 rfl
  have fx := h.frozenK 0 rfl
  have row := h.rowO 0 rfl
  have r0 : w.cell? ⟨gi, 0, none⟩ = some (.int .i64 0) := row.cellAt 0 (by simp)
  have MF := Lib.hid (((h.set (i := 0) (.int .i64 0)).alloc 3 #[.int .i64 0]).asRow (sz := 1) (n := 1) (xs := ints [0]) rfl rfl (by decide))
  clear h row
  go_enter Tryd.func79, Tryd.ntmps79
  go_wp2
  go_ret
  have hF := MF.out
  simp only [World.size_setCell] at hF
  exact ⟨_, rfl, hF⟩

set_option maxRecDepth 100000 in
set_option maxHeartbeats 12800000 in
theorem edge_r01 {w0 w : World} {Ks : List Box} {Os : List Row} {g gi ci : Nat} {t : TypeId} {now : Int} (h : Mem w0 w (⟨g, t, #[.int .i64 1, .bool true]⟩ :: Ks) (intR (some ⟨gi, 0, none⟩) ci [0] :: Os)) :
    Calls Tryd.prog 79 #[.pointer (some ⟨g, 0, none⟩), .slice (some ⟨gi, 0, none⟩) 1 ci, .int .i64 now] w fun e w' => ∃ g', e = .returned (.slice (some ⟨g', 0, none⟩) 1 1) ∧ Mem w0 w' (⟨g, t, #[.int .i64 0, .bool true]⟩ :: Ks) (intR (some ⟨g', 0, none⟩) 1 [0] :: intR (some ⟨gi, 0, none⟩) ci [0] :: Os) := by
  have hne : gi ≠ g := h.dis _ (List.mem_cons_self ..) _ (List.mem_cons_self ..) _ rfl
  have hne2 : g ≠ gi := Ne.symm hne
  have bx := h.cellK 0 rfl
  have fx := h.frozenK 0 rfl
  have row := h.rowO 0 rfl
  have r0 : w.cell? ⟨gi, 0, none⟩ = some (.int .i64 0) := row.cellAt 0 (by simp)
  have MF := Lib.hid (((h.set (i := 0) (.int .i64 0)).alloc 3 #[.int .i64 0]).asRow (sz := 1) (n := 1) (xs := ints [0]) rfl rfl (by decide))
  clear h row
  go_enter Tryd.func79, Tryd.ntmps79
  go_wp2
  go_ret
  have hF := MF.out
  simp only [World.size_setCell] at hF
  exact ⟨_, rfl, hF⟩

set_option maxRecDepth 100000 in
set_option maxHeartbeats 12800000 in
theorem edge_r10 {w0 w : World} {Ks : List Box} {Os : List Row} {g gi ci : Nat} {t : TypeId} {now : Int} (h : Mem w0 w (⟨g, t, #[.int .i64 0, .bool true]⟩ :: Ks) (intR (some ⟨gi, 0, none⟩) ci [1] :: Os)) :
    Calls Tryd.prog 79 #[.pointer (some ⟨g, 0, none⟩), .slice (some ⟨gi, 0, none⟩) 1 ci, .int .i64 now] w fun e w' => ∃ g', e = .returned (.slice (some ⟨g', 0, none⟩) 1 1) ∧ Mem w0 w' (⟨g, t, #[.int .i64 1, .bool true]⟩ :: Ks) (intR (some ⟨g', 0, none⟩) 1 [1] :: intR (some ⟨gi, 0, none⟩) ci [1] :: Os) := by
  have hne : gi ≠ g := h.dis _ (List.mem_cons_self ..) _ (List.mem_cons_self ..) _ rfl
  have hne2 : g ≠ gi := Ne.symm hne
  have bx := h.cellK 0 rfl
  have fx := h.frozenK 0 rfl
  have row := h.rowO 0 rfl
  have r0 : w.cell? ⟨gi, 0, none⟩ = some (.int .i64 1) := row.cellAt 0 (by simp)
  have MF := Lib.hid (((h.set (i := 0) (.int .i64 1)).alloc 3 #[.int .i64 1]).asRow (sz := 1) (n := 1) (xs := ints [1]) rfl rfl (by decide))
  clear h row
  go_enter Tryd.func79, Tryd.ntmps79
  go_wp2
  go_ret
  have hF := MF.out
  simp only [World.size_setCell] at hF
  exact ⟨_, rfl, hF⟩

set_option maxRecDepth 100000 in
set_option maxHeartbeats 12800000 in
theorem edge_r11 {w0 w : World} {Ks : List Box} {Os : List Row} {g gi ci : Nat} {t : TypeId} {now : Int} (h : Mem w0 w (⟨g, t, #[.int .i64 1, .bool true]⟩ :: Ks) (intR (some ⟨gi, 0, none⟩) ci [1] :: Os)) :
    Calls Tryd.prog 79 #[.pointer (some ⟨g, 0, none⟩), .slice (some ⟨gi, 0, none⟩) 1 ci, .int .i64 now] w fun e w' => ∃ g', e = .returned (.slice (some ⟨g', 0, none⟩) 1 1) ∧ Mem w0 w' (⟨g, t, #[.int .i64 1, .bool true]⟩ :: Ks) (intR (some ⟨g', 0, none⟩) 1 [0] :: intR (some ⟨gi, 0, none⟩) ci [1] :: Os) := by
  have hne : gi ≠ g := h.dis _ (List.mem_cons_self ..) _ (List.mem_cons_self ..) _ rfl
  have hne2 : g ≠ gi := Ne.symm hne
  have bx := h.cellK 0 rfl
  have fx := h.frozenK 0 rfl
  have row := h.rowO 0 rfl
  have r0 : w.cell? ⟨gi, 0, none⟩ = some (.int .i64 1) := row.cellAt 0 (by simp)
  have MF := Lib.hid (((h.set (i := 0) (.int .i64 1)).alloc 3 #[.int .i64 0]).asRow (sz := 1) (n := 1) (xs := ints [0]) rfl rfl (by decide))
  clear h row
  go_enter Tryd.func79, Tryd.ntmps79
  go_wp2
  go_ret
  have hF := MF.out
  simp only [World.size_setCell] at hF
  exact ⟨_, rfl, hF⟩

set_option maxRecDepth 100000 in
set_option maxHeartbeats 12800000 in
theorem edge_f00 {w0 w : World} {Ks : List Box} {Os : List Row} {g gi ci : Nat} {t : TypeId} {now : Int} (h : Mem w0 w (⟨g, t, #[.int .i64 0, .bool false]⟩ :: Ks) (intR (some ⟨gi, 0, none⟩) ci [0] :: Os)) :
    Calls Tryd.prog 79 #[.pointer (some ⟨g, 0, none⟩), .slice (some ⟨gi, 0, none⟩) 1 ci, .int .i64 now] w fun e w' => ∃ g', e = .returned (.slice (some ⟨g', 0, none⟩) 1 1) ∧ Mem w0 w' (⟨g, t, #[.int .i64 0, .bool false]⟩ :: Ks) (intR (some ⟨g', 0, none⟩) 1 [0] :: intR (some ⟨gi, 0, none⟩) ci [0] :: Os) := by
  have hne : gi ≠ g := h.dis _ (List.mem_cons_self ..) _ (List.mem_cons_self ..) _ rfl
  have hne2 : g ≠ gi := Ne.symm hne
  have bx := h.cellK 0 rfl
  have fx := h.frozenK 0 rfl
  have row := h.rowO 0 rfl
  have r0 : w.cell? ⟨gi, 0, none⟩ = some (.int .i64 0) := row.cellAt 0 (by simp)
  have MF := Lib.hid (((h.set (i := 0) (.int .i64 0)).alloc 3 #[.int .i64 0]).asRow (sz := 1) (n := 1) (xs := ints [0]) rfl rfl (by decide))
  clear h row
  go_enter Tryd.func79, Tryd.ntmps79
  go_wp2
  go_ret
  have hF := MF.out
  simp only [World.size_setCell] at hF
  exact ⟨_, rfl, hF⟩

set_option maxRecDepth 100000 in
set_option maxHeartbeats 12800000 in
theorem edge_f01 {w0 w : World} {Ks : List Box} {Os : List Row} {g gi ci : Nat} {t : TypeId} {now : Int} (h : Mem w0 w (⟨g, t, #[.int .i64 1, .bool false]⟩ :: Ks) (intR (some ⟨gi, 0, none⟩) ci [0] :: Os)) :
    Calls Tryd.prog 79 #[.pointer (some ⟨g, 0, none⟩), .slice (some ⟨gi, 0, none⟩) 1 ci, .int .i64 now] w fun e w' => ∃ g', e = .returned (.slice (some ⟨g', 0, none⟩) 1 1) ∧ Mem w0 w' (⟨g, t, #[.int .i64 0, .bool false]⟩ :: Ks) (intR (some ⟨g', 0, none⟩) 1 [1] :: intR (some ⟨gi, 0, none⟩) ci [0] :: Os) := by
  have hne : gi ≠ g := h.dis _ (List.mem_cons_self ..) _ (List.mem_cons_self ..) _ rfl
  have hne2 : g ≠ gi := Ne.symm hne
  have bx := h.cellK 0 rfl
  have fx := h.frozenK 0 rfl
  have row := h.rowO 0 rfl
  have r0 : w.cell? ⟨gi, 0, none⟩ = some (.int .i64 0) := row.cellAt 0 (by simp)
  have MF := Lib.hid (((h.set (i := 0) (.int .i64 0)).alloc 3 #[.int .i64 1]).asRow (sz := 1) (n := 1) (xs := ints [1]) rfl rfl (by decide))
  clear h row
  go_enter Tryd.func79, Tryd.ntmps79
  go_wp2
  go_ret
  have hF := MF.out
  simp only [World.size_setCell] at hF
  exact ⟨_, rfl, hF⟩

set_option maxRecDepth 100000 in
set_option maxHeartbeats 12800000 in
theorem edge_f10 {w0 w : World} {Ks : List Box} {Os : List Row} {g gi ci : Nat} {t : TypeId} {now : Int} (h : Mem w0 w (⟨g, t, #[.int .i64 0, .bool false]⟩ :: Ks) (intR (some ⟨gi, 0, none⟩) ci [1] :: Os)) :
    Calls Tryd.prog 79 #[.pointer (some ⟨g, 0, none⟩), .slice (some ⟨gi, 0, none⟩) 1 ci, .int .i64 now] w fun e w' => ∃ g', e = .returned (.slice (some ⟨g', 0, none⟩) 1 1) ∧ Mem w0 w' (⟨g, t, #[.int .i64 1, .bool false]⟩ :: Ks) (intR (some ⟨g', 0, none⟩) 1 [0] :: intR (some ⟨gi, 0, none⟩) ci [1] :: Os) := by
  have hne : gi ≠ g := h.dis _ (List.mem_cons_self ..) _ (List.mem_cons_self ..) _ rfl
  have hne2 : g ≠ gi := Ne.symm hne
  have bx := h.cellK 0 rfl
  have fx := h.frozenK 0 rfl
  have row := h.rowO 0 rfl
  have r0 : w.cell? ⟨gi, 0, none⟩ = some (.int .i64 1) := row.cellAt 0 (by simp)
  have MF := Lib.hid (((h.set (i := 0) (.int .i64 1)).alloc 3 #[.int .i64 0]).asRow (sz := 1) (n := 1) (xs := ints [0]) rfl rfl (by decide))
  clear h row
  go_enter Tryd.func79, Tryd.ntmps79
  go_wp2
  go_ret
  have hF := MF.out
  simp only [World.size_setCell] at hF
  exact ⟨_, rfl, hF⟩

set_option maxRecDepth 100000 in
set_option maxHeartbeats 12800000 in
theorem edge_f11 {w0 w : World} {Ks : List Box} {Os : List Row} {g gi ci : Nat} {t : TypeId} {now : Int} (h : Mem w0 w (⟨g, t, #[.int .i64 1, .bool false]⟩ :: Ks) (intR (some ⟨gi, 0, none⟩) ci [1] :: Os)) :
    Calls Tryd.prog 79 #[.pointer (some ⟨g, 0, none⟩), .slice (some ⟨gi, 0, none⟩) 1 ci, .int .i64 now] w fun e w' => ∃ g', e = .returned (.slice (some ⟨g', 0, none⟩) 1 1) ∧ Mem w0 w' (⟨g, t, #[.int .i64 1, .bool false]⟩ :: Ks) (intR (some ⟨g', 0, none⟩) 1 [0] :: intR (some ⟨gi, 0, none⟩) ci [1] :: Os) := by
  have hne : gi ≠ g := h.dis _ (List.mem_cons_self ..) _ (List.mem_cons_self ..) _ rfl
  have hne2 : g ≠ gi := Ne.symm hne
  have bx := h.cellK 0 rfl
  have fx := h.frozenK 0 rfl
  have row := h.rowO 0 rfl
  have r0 : w.cell? ⟨gi, 0, none⟩ = some (.int .i64 1) := row.cellAt 0 (by simp)
  have MF := Lib.hid (((h.set (i := 0) (.int .i64 1)).alloc 3 #[.int .i64 0]).asRow (sz := 1) (n := 1) (xs := ints [0]) rfl rfl (by decide))
  clear h row
  go_enter Tryd.func79, Tryd.ntmps79
  go_wp2
  go_ret
  have hF := MF.out
  simp only [World.size_setCell] at hF
  exact ⟨_, rfl, hF⟩

end Go.Proofs.YthgjjclmepfbpaaDoor.Blk
