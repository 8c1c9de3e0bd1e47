/-
  Counters: load, words, step. Conditions: the box and the row are the call's own; numbers lie within 16 bits.
-/
import Derived.Test.YthgjjclmepfbpaaDoorBlkA
namespace Go.Proofs.YthgjjclmepfbpaaDoor.Blk
open Go.RowKit Go.Proofs.YthgjjclmepfbpaaDoor.W Go.Proofs.YthgjjclmepfbpaaDoor.Ints Go.Proofs.YthgjjclmepfbpaaDoor.Cell Go.Proofs.YthgjjclmepfbpaaDoor.Num

abbrev k3 (u : Bool) (p n : Int) : Array Value := #[.bool u, .int .i64 p, .int .i64 n]
theorem truth_any (b : Bool) (w : World) : Calls Tryd.prog 73 #[.bool b] w fun e w' => e = .returned (.int .i64 (if b = true then 1 else 0)) ∧ w = w' := by
  cases b
  · go_enter Tryd.func73, Tryd.ntmps73
    go_wp2
    go_ret
    exact ⟨rfl, rfl⟩
  · go_enter Tryd.func73, Tryd.ntmps73
    go_wp2
    go_ret
    exact ⟨rfl, rfl⟩
set_option maxRecDepth 100000 in
set_option maxHeartbeats 6400000 in
theorem load_counter {w0 w : World} {Ks : List Box} {Os : List Row} {g gf cf : Nat} {t : TypeId} {u : Bool} {x0 x1 a b : Int} (h : Mem w0 w (⟨g, t, k3 u x0 x1⟩ :: Ks) (intR (some ⟨gf, 0, none⟩) cf [a, b] :: Os)) :
    Calls Tryd.prog 70 #[.pointer (some ⟨g, 0, none⟩), .slice (some ⟨gf, 0, none⟩) 2 cf] w fun e w' => e = .returned (.tuple #[]) ∧ Mem w0 w' (⟨g, t, k3 u a b⟩ :: Ks) (intR (some ⟨gf, 0, none⟩) cf [a, b] :: Os) := by
  have hne : gf ≠ g := h.dis _ (List.mem_cons_self ..) _ (List.mem_cons_self ..) _ rfl
  have hne2 : g ≠ gf := Ne.symm hne
  have bx := h.cellK 0 rfl
  have fx := h.frozenK 0 rfl
  have row := h.rowO 0 rfl
  have p1 : w.cell? ⟨gf, 0, none⟩ = some (.int .i64 a) := row.cellAt 0 (by simp)
  have p2 : w.cell? ⟨gf, 1, none⟩ = some (.int .i64 b) := row.cellAt 1 (by simp)
  have q0 : w.drew.cell? ⟨gf, 0, none⟩ = some (.int .i64 a) ∧ w.drew.cell? ⟨gf, 1, none⟩ = some (.int .i64 b) := ⟨p1, p2⟩
  have MF := Lib.hid ((h.set (i := 1) (.int .i64 a)).set (i := 2) (.int .i64 b)).drew
  clear row h
  go_enter Tryd.func70, Tryd.ntmps70
  go_region_held3 (fun w' => w'.cell? ⟨gf, 0, none⟩ = some (.int .i64 a) ∧ w'.cell? ⟨gf, 1, none⟩ = some (.int .i64 b))
    (first | with_reducible assumption | (refine ⟨?_, ?_⟩ <;> go_simp))
    (fail)
  go_end0
  exact ⟨rfl, MF.out⟩
set_option maxRecDepth 100000 in
set_option maxHeartbeats 6400000 in
theorem words_counter {w0 w : World} {Ks : List Box} {Os : List Row} {g : Nat} {t : TypeId} {u : Bool} {a b : Int} (h : Mem w0 w (⟨g, t, k3 u a b⟩ :: Ks) Os) :
    Calls Tryd.prog 72 #[.pointer (some ⟨g, 0, none⟩)] w fun e w' => ∃ g', e = .returned (.slice (some ⟨g', 0, none⟩) 2 2) ∧ Mem w0 w' (⟨g, t, k3 u a b⟩ :: Ks) (intR (some ⟨g', 0, none⟩) 2 [a, b] :: Os) := by
  have bx := h.cellK 0 rfl
  have p1 : w.cell? ⟨g, 1, none⟩ = some (.int .i64 a) := bx 1
  have p2 : w.cell? ⟨g, 2, none⟩ = some (.int .i64 b) := bx 2
  have q0 : w.drew.cell? ⟨g, 1, none⟩ = some (.int .i64 a) ∧ w.drew.cell? ⟨g, 2, none⟩ = some (.int .i64 b) := ⟨p1, p2⟩
  have MF := Lib.hid ((h.alloc 3 #[.int .i64 a, .int .i64 b]).drew.asRow (sz := 1) (n := 2) (xs := ints [a, b]) rfl rfl (by decide))
  have hlt := (h.ltK 0 rfl).2
  clear h bx
  go_enter Tryd.func72, Tryd.ntmps72
  go_upto_region 1 with fail
  go_region_held3 (fun w' => w'.cell? ⟨g, 1, none⟩ = some (.int .i64 a) ∧ w'.cell? ⟨g, 2, none⟩ = some (.int .i64 b))
    (first | with_reducible assumption | (refine ⟨?_, ?_⟩ <;> go_simp))
    (fail)
  go_wp2
  go_ret
  exact ⟨_, rfl, MF.out⟩

set_option maxRecDepth 100000 in
set_option maxHeartbeats 12800000 in
theorem ctu_A1 {w0 w : World} {Ks : List Box} {Os : List Row} {g gi ci : Nat} {t : TypeId} {n i2 now : Int} (h : Mem w0 w (⟨g, t, k3 true 0 n⟩ :: Ks) (intR (some ⟨gi, 0, none⟩) ci [1, 1, i2] :: Os)) :
    Calls Tryd.prog 71 #[.pointer (some ⟨g, 0, none⟩), .slice (some ⟨gi, 0, none⟩) 3 ci, .int .i64 now] w fun e w' => ∃ g', e = .returned (.slice (some ⟨g', 0, none⟩) 2 2) ∧ Mem w0 w' (⟨g, t, k3 true 1 0⟩ :: Ks) (intR (some ⟨g', 0, none⟩) 2 [(if i2 ≤ 0 then 1 else 0), 0] :: intR (some ⟨gi, 0, none⟩) ci [1, 1, i2] :: Os) := by
  have hne : gi ≠ g := h.dis _ (List.mem_cons_self ..) _ (List.mem_cons_self ..) _ rfl
  have hne2 : g ≠ gi := Ne.symm hne

  have HT : Hid (∀ w : World, Calls Tryd.prog 73 #[.bool (decide (i2 ≤ 0))] w fun e w' => e = .returned (.int .i64 (if i2 ≤ 0 then 1 else 0)) ∧ w = w') := fun w => by simpa using truth_any (decide (i2 ≤ 0)) w
  obtain ⟨q, hq⟩ : ∃ q : Int, (if i2 ≤ 0 then 1 else 0) = q := ⟨_, rfl⟩
  rw [hq] at HT ⊢
  clear hq
  have bx := h.cellK 0 rfl
  have fx := h.frozenK 0 rfl
  have row := h.rowO 0 rfl
  have r0 : w.cell? ⟨gi, 0, none⟩ = some (.int .i64 1) := row.cellAt 0 (by simp)
  have r1 : w.cell? ⟨gi, 1, none⟩ = some (.int .i64 1) := row.cellAt 1 (by simp)
  have r2 : w.cell? ⟨gi, 2, none⟩ = some (.int .i64 i2) := row.cellAt 2 (by simp)
  have MS := Lib.hid ((h.set (i := 1) (.int .i64 1)).set (i := 2) (.int .i64 0))
  go_enter Tryd.func71, Tryd.ntmps71
  go_upto_region 12 with fail
  generalize World.setCell (World.setCell _ _ _) _ _ = w3 at MS ⊢
  clear h bx fx row r0 r1 r2
  have M3 : Hid (Mem w0 w3 (⟨g, t, k3 true 1 0⟩ :: Ks) (intR (some ⟨gi, 0, none⟩) ci [1, 1, i2] :: Os)) := MS
  clear MS hne hne2
  have bx := M3.out.cellK 0 rfl
  have row := M3.out.rowO 0 rfl
  have p2 : w3.cell? ⟨g, 2, none⟩ = some (.int .i64 0) := bx 2
  have r2 : w3.cell? ⟨gi, 2, none⟩ = some (.int .i64 i2) := row.cellAt 2 (by simp)
  have q9 : w3.drew.cell? ⟨g, 2, none⟩ = some (.int .i64 0) ∧ w3.drew.cell? ⟨gi, 2, none⟩ = some (.int .i64 i2) := ⟨p2, r2⟩
  have hlt := (M3.out.ltK 0 rfl).2
  have hlt2 := lt_of_cell r2
  have MF := Lib.hid ((M3.out.alloc 3 #[.int .i64 q, .int .i64 0]).drew.asRow (sz := 1) (n := 2) (xs := ints [q, 0]) rfl rfl (by decide))
  clear M3 bx row
  go_region_held3 (fun w' => w'.cell? ⟨g, 2, none⟩ = some (.int .i64 0) ∧ w'.cell? ⟨gi, 2, none⟩ = some (.int .i64 i2))
    (first | with_reducible assumption | (refine ⟨?_, ?_⟩ <;> go_simp))
    ((go_at_call 73
      refine (HT.out _).mono ?_
      rintro e w4 ⟨rfl, rfl⟩
      dsimp only))
  go_wp2
  go_ret
  exact ⟨_, rfl, MF.out⟩

set_option maxRecDepth 100000 in
set_option maxHeartbeats 12800000 in
theorem ctu_A0 {w0 w : World} {Ks : List Box} {Os : List Row} {g gi ci : Nat} {t : TypeId} {n i2 now : Int} (h : Mem w0 w (⟨g, t, k3 true 0 n⟩ :: Ks) (intR (some ⟨gi, 0, none⟩) ci [1, 0, i2] :: Os)) (hn : -32768 ≤ n) (hn' : n ≤ 32767) :
    Calls Tryd.prog 71 #[.pointer (some ⟨g, 0, none⟩), .slice (some ⟨gi, 0, none⟩) 3 ci, .int .i64 now] w fun e w' => ∃ g', e = .returned (.slice (some ⟨g', 0, none⟩) 2 2) ∧ Mem w0 w' (⟨g, t, k3 true 1 (min (n + 1) 32767)⟩ :: Ks) (intR (some ⟨g', 0, none⟩) 2 [(if i2 ≤ (min (n + 1) 32767) then 1 else 0), (min (n + 1) 32767)] :: intR (some ⟨gi, 0, none⟩) ci [1, 0, i2] :: Os) := by
  have hne : gi ≠ g := h.dis _ (List.mem_cons_self ..) _ (List.mem_cons_self ..) _ rfl
  have hne2 : g ≠ gi := Ne.symm hne
  obtain ⟨N, hN⟩ : ∃ N : Int, (min (n + 1) 32767) = N := ⟨_, rfl⟩
  rw [hN]
  have HT : Hid (∀ w : World, Calls Tryd.prog 73 #[.bool (decide (i2 ≤ N))] w fun e w' => e = .returned (.int .i64 (if i2 ≤ N then 1 else 0)) ∧ w = w') := fun w => by simpa using truth_any (decide (i2 ≤ N)) w
  obtain ⟨q, hq⟩ : ∃ q : Int, (if i2 ≤ N then 1 else 0) = q := ⟨_, rfl⟩
  rw [hq] at HT ⊢
  clear hq
  have bx := h.cellK 0 rfl
  have fx := h.frozenK 0 rfl
  have row := h.rowO 0 rfl
  have r0 : w.cell? ⟨gi, 0, none⟩ = some (.int .i64 1) := row.cellAt 0 (by simp)
  have r1 : w.cell? ⟨gi, 1, none⟩ = some (.int .i64 0) := row.cellAt 1 (by simp)
  have r2 : w.cell? ⟨gi, 2, none⟩ = some (.int .i64 i2) := row.cellAt 2 (by simp)
  have hw1 : IntKind.i64.wrap (n + 1) = n + 1 := by simp [IntKind.wrap, IntKind.bits, IntKind.signed]; omega
  have MS := Lib.hid ((h.set (i := 1) (.int .i64 1)).set (i := 2) (.int .i64 N))
  go_enter Tryd.func71, Tryd.ntmps71
  go_upto_region 12 with fail
  clear hN
  generalize World.setCell (World.setCell _ _ _) _ _ = w3 at MS ⊢
  clear h bx fx row r0 r1 r2
  have M3 : Hid (Mem w0 w3 (⟨g, t, k3 true 1 N⟩ :: Ks) (intR (some ⟨gi, 0, none⟩) ci [1, 0, i2] :: Os)) := MS
  clear MS hne hne2
  have bx := M3.out.cellK 0 rfl
  have row := M3.out.rowO 0 rfl
  have p2 : w3.cell? ⟨g, 2, none⟩ = some (.int .i64 N) := bx 2
  have r2 : w3.cell? ⟨gi, 2, none⟩ = some (.int .i64 i2) := row.cellAt 2 (by simp)
  have q9 : w3.drew.cell? ⟨g, 2, none⟩ = some (.int .i64 N) ∧ w3.drew.cell? ⟨gi, 2, none⟩ = some (.int .i64 i2) := ⟨p2, r2⟩
  have hlt := (M3.out.ltK 0 rfl).2
  have hlt2 := lt_of_cell r2
  have MF := Lib.hid ((M3.out.alloc 3 #[.int .i64 q, .int .i64 N]).drew.asRow (sz := 1) (n := 2) (xs := ints [q, N]) rfl rfl (by decide))
  clear M3 bx row
  go_region_held3 (fun w' => w'.cell? ⟨g, 2, none⟩ = some (.int .i64 N) ∧ w'.cell? ⟨gi, 2, none⟩ = some (.int .i64 i2))
    (first | with_reducible assumption | (refine ⟨?_, ?_⟩ <;> go_simp))
    ((go_at_call 73
      refine (HT.out _).mono ?_
      rintro e w4 ⟨rfl, rfl⟩
      dsimp only))
  go_wp2
  go_ret
  exact ⟨_, rfl, MF.out⟩

set_option maxRecDepth 100000 in
set_option maxHeartbeats 12800000 in
theorem ctu_B1 {w0 w : World} {Ks : List Box} {Os : List Row} {g gi ci : Nat} {t : TypeId} {p n i2 now : Int} (h : Mem w0 w (⟨g, t, k3 true p n⟩ :: Ks) (intR (some ⟨gi, 0, none⟩) ci [1, 1, i2] :: Os)) (hp : ¬ p = 0) :
    Calls Tryd.prog 71 #[.pointer (some ⟨g, 0, none⟩), .slice (some ⟨gi, 0, none⟩) 3 ci, .int .i64 now] w fun e w' => ∃ g', e = .returned (.slice (some ⟨g', 0, none⟩) 2 2) ∧ Mem w0 w' (⟨g, t, k3 true 1 0⟩ :: Ks) (intR (some ⟨g', 0, none⟩) 2 [(if i2 ≤ 0 then 1 else 0), 0] :: intR (some ⟨gi, 0, none⟩) ci [1, 1, i2] :: Os) := by
  have hne : gi ≠ g := h.dis _ (List.mem_cons_self ..) _ (List.mem_cons_self ..) _ rfl
  have hne2 : g ≠ gi := Ne.symm hne

  have HT : Hid (∀ w : World, Calls Tryd.prog 73 #[.bool (decide (i2 ≤ 0))] w fun e w' => e = .returned (.int .i64 (if i2 ≤ 0 then 1 else 0)) ∧ w = w') := fun w => by simpa using truth_any (decide (i2 ≤ 0)) w
  obtain ⟨q, hq⟩ : ∃ q : Int, (if i2 ≤ 0 then 1 else 0) = q := ⟨_, rfl⟩
  rw [hq] at HT ⊢
  clear hq
  have bx := h.cellK 0 rfl
  have fx := h.frozenK 0 rfl
  have row := h.rowO 0 rfl
  have r0 : w.cell? ⟨gi, 0, none⟩ = some (.int .i64 1) := row.cellAt 0 (by simp)
  have r1 : w.cell? ⟨gi, 1, none⟩ = some (.int .i64 1) := row.cellAt 1 (by simp)
  have r2 : w.cell? ⟨gi, 2, none⟩ = some (.int .i64 i2) := row.cellAt 2 (by simp)
  have hp1 : (p == 0) = false := by simpa using hp
  have MS := Lib.hid ((h.set (i := 1) (.int .i64 1)).set (i := 2) (.int .i64 0))
  go_enter Tryd.func71, Tryd.ntmps71
  go_upto_region 12 with fail
  generalize World.setCell (World.setCell _ _ _) _ _ = w3 at MS ⊢
  clear h bx fx row r0 r1 r2
  have M3 : Hid (Mem w0 w3 (⟨g, t, k3 true 1 0⟩ :: Ks) (intR (some ⟨gi, 0, none⟩) ci [1, 1, i2] :: Os)) := MS
  clear MS hne hne2
  have bx := M3.out.cellK 0 rfl
  have row := M3.out.rowO 0 rfl
  have p2 : w3.cell? ⟨g, 2, none⟩ = some (.int .i64 0) := bx 2
  have r2 : w3.cell? ⟨gi, 2, none⟩ = some (.int .i64 i2) := row.cellAt 2 (by simp)
  have q9 : w3.drew.cell? ⟨g, 2, none⟩ = some (.int .i64 0) ∧ w3.drew.cell? ⟨gi, 2, none⟩ = some (.int .i64 i2) := ⟨p2, r2⟩
  have hlt := (M3.out.ltK 0 rfl).2
  have hlt2 := lt_of_cell r2
  have MF := Lib.hid ((M3.out.alloc 3 #[.int .i64 q, .int .i64 0]).drew.asRow (sz := 1) (n := 2) (xs := ints [q, 0]) rfl rfl (by decide))
  clear M3 bx row
  go_region_held3 (fun w' => w'.cell? ⟨g, 2, none⟩ = some (.int .i64 0) ∧ w'.cell? ⟨gi, 2, none⟩ = some (.int .i64 i2))
    (first | with_reducible assumption | (refine ⟨?_, ?_⟩ <;> go_simp))
    ((go_at_call 73
      refine (HT.out _).mono ?_
      rintro e w4 ⟨rfl, rfl⟩
      dsimp only))
  go_wp2
  go_ret
  exact ⟨_, rfl, MF.out⟩

set_option maxRecDepth 100000 in
set_option maxHeartbeats 12800000 in
theorem ctu_B0 {w0 w : World} {Ks : List Box} {Os : List Row} {g gi ci : Nat} {t : TypeId} {p n i2 now : Int} (h : Mem w0 w (⟨g, t, k3 true p n⟩ :: Ks) (intR (some ⟨gi, 0, none⟩) ci [1, 0, i2] :: Os)) (hp : ¬ p = 0) :
    Calls Tryd.prog 71 #[.pointer (some ⟨g, 0, none⟩), .slice (some ⟨gi, 0, none⟩) 3 ci, .int .i64 now] w fun e w' => ∃ g', e = .returned (.slice (some ⟨g', 0, none⟩) 2 2) ∧ Mem w0 w' (⟨g, t, k3 true 1 n⟩ :: Ks) (intR (some ⟨g', 0, none⟩) 2 [(if i2 ≤ n then 1 else 0), n] :: intR (some ⟨gi, 0, none⟩) ci [1, 0, i2] :: Os) := by
  have hne : gi ≠ g := h.dis _ (List.mem_cons_self ..) _ (List.mem_cons_self ..) _ rfl
  have hne2 : g ≠ gi := Ne.symm hne

  have HT : Hid (∀ w : World, Calls Tryd.prog 73 #[.bool (decide (i2 ≤ n))] w fun e w' => e = .returned (.int .i64 (if i2 ≤ n then 1 else 0)) ∧ w = w') := fun w => by simpa using truth_any (decide (i2 ≤ n)) w
  obtain ⟨q, hq⟩ : ∃ q : Int, (if i2 ≤ n then 1 else 0) = q := ⟨_, rfl⟩
  rw [hq] at HT ⊢
  clear hq
  have bx := h.cellK 0 rfl
  have fx := h.frozenK 0 rfl
  have row := h.rowO 0 rfl
  have r0 : w.cell? ⟨gi, 0, none⟩ = some (.int .i64 1) := row.cellAt 0 (by simp)
  have r1 : w.cell? ⟨gi, 1, none⟩ = some (.int .i64 0) := row.cellAt 1 (by simp)
  have r2 : w.cell? ⟨gi, 2, none⟩ = some (.int .i64 i2) := row.cellAt 2 (by simp)
  have hp1 : (p == 0) = false := by simpa using hp
  have MS := Lib.hid (h.set (i := 1) (.int .i64 1))
  go_enter Tryd.func71, Tryd.ntmps71
  go_upto_region 12 with fail
  generalize World.setCell _ _ _ = w3 at MS ⊢
  clear h bx fx row r0 r1 r2
  have M3 : Hid (Mem w0 w3 (⟨g, t, k3 true 1 n⟩ :: Ks) (intR (some ⟨gi, 0, none⟩) ci [1, 0, i2] :: Os)) := MS
  clear MS hne hne2
  have bx := M3.out.cellK 0 rfl
  have row := M3.out.rowO 0 rfl
  have p2 : w3.cell? ⟨g, 2, none⟩ = some (.int .i64 n) := bx 2
  have r2 : w3.cell? ⟨gi, 2, none⟩ = some (.int .i64 i2) := row.cellAt 2 (by simp)
  have q9 : w3.drew.cell? ⟨g, 2, none⟩ = some (.int .i64 n) ∧ w3.drew.cell? ⟨gi, 2, none⟩ = some (.int .i64 i2) := ⟨p2, r2⟩
  have hlt := (M3.out.ltK 0 rfl).2
  have hlt2 := lt_of_cell r2
  have MF := Lib.hid ((M3.out.alloc 3 #[.int .i64 q, .int .i64 n]).drew.asRow (sz := 1) (n := 2) (xs := ints [q, n]) rfl rfl (by decide))
  clear M3 bx row
  go_region_held3 (fun w' => w'.cell? ⟨g, 2, none⟩ = some (.int .i64 n) ∧ w'.cell? ⟨gi, 2, none⟩ = some (.int .i64 i2))
    (first | with_reducible assumption | (refine ⟨?_, ?_⟩ <;> go_simp))
    ((go_at_call 73
      refine (HT.out _).mono ?_
      rintro e w4 ⟨rfl, rfl⟩
      dsimp only))
  go_wp2
  go_ret
  exact ⟨_, rfl, MF.out⟩

set_option maxRecDepth 100000 in
set_option maxHeartbeats 12800000 in
theorem ctu_C1 {w0 w : World} {Ks : List Box} {Os : List Row} {g gi ci : Nat} {t : TypeId} {p n i2 now : Int} (h : Mem w0 w (⟨g, t, k3 true p n⟩ :: Ks) (intR (some ⟨gi, 0, none⟩) ci [0, 1, i2] :: Os)) :
    Calls Tryd.prog 71 #[.pointer (some ⟨g, 0, none⟩), .slice (some ⟨gi, 0, none⟩) 3 ci, .int .i64 now] w fun e w' => ∃ g', e = .returned (.slice (some ⟨g', 0, none⟩) 2 2) ∧ Mem w0 w' (⟨g, t, k3 true 0 0⟩ :: Ks) (intR (some ⟨g', 0, none⟩) 2 [(if i2 ≤ 0 then 1 else 0), 0] :: intR (some ⟨gi, 0, none⟩) ci [0, 1, i2] :: Os) := by
  have hne : gi ≠ g := h.dis _ (List.mem_cons_self ..) _ (List.mem_cons_self ..) _ rfl
  have hne2 : g ≠ gi := Ne.symm hne

  have HT : Hid (∀ w : World, Calls Tryd.prog 73 #[.bool (decide (i2 ≤ 0))] w fun e w' => e = .returned (.int .i64 (if i2 ≤ 0 then 1 else 0)) ∧ w = w') := fun w => by simpa using truth_any (decide (i2 ≤ 0)) w
  obtain ⟨q, hq⟩ : ∃ q : Int, (if i2 ≤ 0 then 1 else 0) = q := ⟨_, rfl⟩
  rw [hq] at HT ⊢
  clear hq
  have bx := h.cellK 0 rfl
  have fx := h.frozenK 0 rfl
  have row := h.rowO 0 rfl
  have r0 : w.cell? ⟨gi, 0, none⟩ = some (.int .i64 0) := row.cellAt 0 (by simp)
  have r1 : w.cell? ⟨gi, 1, none⟩ = some (.int .i64 1) := row.cellAt 1 (by simp)
  have r2 : w.cell? ⟨gi, 2, none⟩ = some (.int .i64 i2) := row.cellAt 2 (by simp)
  have MS := Lib.hid ((h.set (i := 1) (.int .i64 0)).set (i := 2) (.int .i64 0))
  go_enter Tryd.func71, Tryd.ntmps71
  go_upto_region 12 with fail
  generalize World.setCell (World.setCell _ _ _) _ _ = w3 at MS ⊢
  clear h bx fx row r0 r1 r2
  have M3 : Hid (Mem w0 w3 (⟨g, t, k3 true 0 0⟩ :: Ks) (intR (some ⟨gi, 0, none⟩) ci [0, 1, i2] :: Os)) := MS
  clear MS hne hne2
  have bx := M3.out.cellK 0 rfl
  have row := M3.out.rowO 0 rfl
  have p2 : w3.cell? ⟨g, 2, none⟩ = some (.int .i64 0) := bx 2
  have r2 : w3.cell? ⟨gi, 2, none⟩ = some (.int .i64 i2) := row.cellAt 2 (by simp)
  have q9 : w3.drew.cell? ⟨g, 2, none⟩ = some (.int .i64 0) ∧ w3.drew.cell? ⟨gi, 2, none⟩ = some (.int .i64 i2) := ⟨p2, r2⟩
  have hlt := (M3.out.ltK 0 rfl).2
  have hlt2 := lt_of_cell r2
  have MF := Lib.hid ((M3.out.alloc 3 #[.int .i64 q, .int .i64 0]).drew.asRow (sz := 1) (n := 2) (xs := ints [q, 0]) rfl rfl (by decide))
  clear M3 bx row
  go_region_held3 (fun w' => w'.cell? ⟨g, 2, none⟩ = some (.int .i64 0) ∧ w'.cell? ⟨gi, 2, none⟩ = some (.int .i64 i2))
    (first | with_reducible assumption | (refine ⟨?_, ?_⟩ <;> go_simp))
    ((go_at_call 73
      refine (HT.out _).mono ?_
      rintro e w4 ⟨rfl, rfl⟩
      dsimp only))
  go_wp2
  go_ret
  exact ⟨_, rfl, MF.out⟩

set_option maxRecDepth 100000 in
set_option maxHeartbeats 12800000 in
theorem ctu_C0 {w0 w : World} {Ks : List Box} {Os : List Row} {g gi ci : Nat} {t : TypeId} {p n i2 now : Int} (h : Mem w0 w (⟨g, t, k3 true p n⟩ :: Ks) (intR (some ⟨gi, 0, none⟩) ci [0, 0, i2] :: Os)) :
    Calls Tryd.prog 71 #[.pointer (some ⟨g, 0, none⟩), .slice (some ⟨gi, 0, none⟩) 3 ci, .int .i64 now] w fun e w' => ∃ g', e = .returned (.slice (some ⟨g', 0, none⟩) 2 2) ∧ Mem w0 w' (⟨g, t, k3 true 0 n⟩ :: Ks) (intR (some ⟨g', 0, none⟩) 2 [(if i2 ≤ n then 1 else 0), n] :: intR (some ⟨gi, 0, none⟩) ci [0, 0, i2] :: Os) := by
  have hne : gi ≠ g := h.dis _ (List.mem_cons_self ..) _ (List.mem_cons_self ..) _ rfl
  have hne2 : g ≠ gi := Ne.symm hne

  have HT : Hid (∀ w : World, Calls Tryd.prog 73 #[.bool (decide (i2 ≤ n))] w fun e w' => e = .returned (.int .i64 (if i2 ≤ n then 1 else 0)) ∧ w = w') := fun w => by simpa using truth_any (decide (i2 ≤ n)) w
  obtain ⟨q, hq⟩ : ∃ q : Int, (if i2 ≤ n then 1 else 0) = q := ⟨_, rfl⟩
  rw [hq] at HT ⊢
  clear hq
  have bx := h.cellK 0 rfl
  have fx := h.frozenK 0 rfl
  have row := h.rowO 0 rfl
  have r0 : w.cell? ⟨gi, 0, none⟩ = some (.int .i64 0) := row.cellAt 0 (by simp)
  have r1 : w.cell? ⟨gi, 1, none⟩ = some (.int .i64 0) := row.cellAt 1 (by simp)
  have r2 : w.cell? ⟨gi, 2, none⟩ = some (.int .i64 i2) := row.cellAt 2 (by simp)
  have MS := Lib.hid (h.set (i := 1) (.int .i64 0))
  go_enter Tryd.func71, Tryd.ntmps71
  go_upto_region 12 with fail
  generalize World.setCell _ _ _ = w3 at MS ⊢
  clear h bx fx row r0 r1 r2
  have M3 : Hid (Mem w0 w3 (⟨g, t, k3 true 0 n⟩ :: Ks) (intR (some ⟨gi, 0, none⟩) ci [0, 0, i2] :: Os)) := MS
  clear MS hne hne2
  have bx := M3.out.cellK 0 rfl
  have row := M3.out.rowO 0 rfl
  have p2 : w3.cell? ⟨g, 2, none⟩ = some (.int .i64 n) := bx 2
  have r2 : w3.cell? ⟨gi, 2, none⟩ = some (.int .i64 i2) := row.cellAt 2 (by simp)
  have q9 : w3.drew.cell? ⟨g, 2, none⟩ = some (.int .i64 n) ∧ w3.drew.cell? ⟨gi, 2, none⟩ = some (.int .i64 i2) := ⟨p2, r2⟩
  have hlt := (M3.out.ltK 0 rfl).2
  have hlt2 := lt_of_cell r2
  have MF := Lib.hid ((M3.out.alloc 3 #[.int .i64 q, .int .i64 n]).drew.asRow (sz := 1) (n := 2) (xs := ints [q, n]) rfl rfl (by decide))
  clear M3 bx row
  go_region_held3 (fun w' => w'.cell? ⟨g, 2, none⟩ = some (.int .i64 n) ∧ w'.cell? ⟨gi, 2, none⟩ = some (.int .i64 i2))
    (first | with_reducible assumption | (refine ⟨?_, ?_⟩ <;> go_simp))
    ((go_at_call 73
      refine (HT.out _).mono ?_
      rintro e w4 ⟨rfl, rfl⟩
      dsimp only))
  go_wp2
  go_ret
  exact ⟨_, rfl, MF.out⟩

set_option maxRecDepth 100000 in
set_option maxHeartbeats 12800000 in
theorem ctd_A1 {w0 w : World} {Ks : List Box} {Os : List Row} {g gi ci : Nat} {t : TypeId} {n i2 now : Int} (h : Mem w0 w (⟨g, t, k3 false 0 n⟩ :: Ks) (intR (some ⟨gi, 0, none⟩) ci [1, 1, i2] :: Os)) :
    Calls Tryd.prog 71 #[.pointer (some ⟨g, 0, none⟩), .slice (some ⟨gi, 0, none⟩) 3 ci, .int .i64 now] w fun e w' => ∃ g', e = .returned (.slice (some ⟨g', 0, none⟩) 2 2) ∧ Mem w0 w' (⟨g, t, k3 false 1 i2⟩ :: Ks) (intR (some ⟨g', 0, none⟩) 2 [(if i2 ≤ 0 then 1 else 0), i2] :: intR (some ⟨gi, 0, none⟩) ci [1, 1, i2] :: Os) := by
  have hne : gi ≠ g := h.dis _ (List.mem_cons_self ..) _ (List.mem_cons_self ..) _ rfl
  have hne2 : g ≠ gi := Ne.symm hne

  have HT : Hid (∀ w : World, Calls Tryd.prog 73 #[.bool (decide (i2 ≤ 0))] w fun e w' => e = .returned (.int .i64 (if i2 ≤ 0 then 1 else 0)) ∧ w = w') := fun w => by simpa using truth_any (decide (i2 ≤ 0)) w
  obtain ⟨q, hq⟩ : ∃ q : Int, (if i2 ≤ 0 then 1 else 0) = q := ⟨_, rfl⟩
  rw [hq] at HT ⊢
  clear hq
  have bx := h.cellK 0 rfl
  have fx := h.frozenK 0 rfl
  have row := h.rowO 0 rfl
  have r0 : w.cell? ⟨gi, 0, none⟩ = some (.int .i64 1) := row.cellAt 0 (by simp)
  have r1 : w.cell? ⟨gi, 1, none⟩ = some (.int .i64 1) := row.cellAt 1 (by simp)
  have r2 : w.cell? ⟨gi, 2, none⟩ = some (.int .i64 i2) := row.cellAt 2 (by simp)
  have MS := Lib.hid ((h.set (i := 1) (.int .i64 1)).set (i := 2) (.int .i64 i2))
  go_enter Tryd.func71, Tryd.ntmps71
  go_upto_region 13 with fail
  generalize World.setCell (World.setCell _ _ _) _ _ = w3 at MS ⊢
  clear h bx fx row r0 r1 r2
  have M3 : Hid (Mem w0 w3 (⟨g, t, k3 false 1 i2⟩ :: Ks) (intR (some ⟨gi, 0, none⟩) ci [1, 1, i2] :: Os)) := MS
  clear MS hne hne2
  have bx := M3.out.cellK 0 rfl
  have row := M3.out.rowO 0 rfl
  have p2 : w3.cell? ⟨g, 2, none⟩ = some (.int .i64 i2) := bx 2
  have r2 : w3.cell? ⟨gi, 2, none⟩ = some (.int .i64 i2) := row.cellAt 2 (by simp)
  have q9 : w3.drew.cell? ⟨g, 2, none⟩ = some (.int .i64 i2) ∧ w3.drew.cell? ⟨gi, 2, none⟩ = some (.int .i64 i2) := ⟨p2, r2⟩
  have hlt := (M3.out.ltK 0 rfl).2
  have hlt2 := lt_of_cell r2
  have MF := Lib.hid ((M3.out.alloc 3 #[.int .i64 q, .int .i64 i2]).drew.asRow (sz := 1) (n := 2) (xs := ints [q, i2]) rfl rfl (by decide))
  clear M3 bx row
  go_region_held3 (fun w' => w'.cell? ⟨g, 2, none⟩ = some (.int .i64 i2) ∧ w'.cell? ⟨gi, 2, none⟩ = some (.int .i64 i2))
    (first | with_reducible assumption | (refine ⟨?_, ?_⟩ <;> go_simp))
    ((go_at_call 73
      refine (HT.out _).mono ?_
      rintro e w4 ⟨rfl, rfl⟩
      dsimp only))
  go_wp2
  go_ret
  exact ⟨_, rfl, MF.out⟩

set_option maxRecDepth 100000 in
set_option maxHeartbeats 12800000 in
theorem ctd_A0 {w0 w : World} {Ks : List Box} {Os : List Row} {g gi ci : Nat} {t : TypeId} {n i2 now : Int} (h : Mem w0 w (⟨g, t, k3 false 0 n⟩ :: Ks) (intR (some ⟨gi, 0, none⟩) ci [1, 0, i2] :: Os)) (hn : -32768 ≤ n) (hn' : n ≤ 32767) :
    Calls Tryd.prog 71 #[.pointer (some ⟨g, 0, none⟩), .slice (some ⟨gi, 0, none⟩) 3 ci, .int .i64 now] w fun e w' => ∃ g', e = .returned (.slice (some ⟨g', 0, none⟩) 2 2) ∧ Mem w0 w' (⟨g, t, k3 false 1 (max (n - 1) (-32768))⟩ :: Ks) (intR (some ⟨g', 0, none⟩) 2 [(if (max (n - 1) (-32768)) ≤ 0 then 1 else 0), (max (n - 1) (-32768))] :: intR (some ⟨gi, 0, none⟩) ci [1, 0, i2] :: Os) := by
  have hne : gi ≠ g := h.dis _ (List.mem_cons_self ..) _ (List.mem_cons_self ..) _ rfl
  have hne2 : g ≠ gi := Ne.symm hne
  obtain ⟨N, hN⟩ : ∃ N : Int, (max (n - 1) (-32768)) = N := ⟨_, rfl⟩
  rw [hN]
  have HT : Hid (∀ w : World, Calls Tryd.prog 73 #[.bool (decide (N ≤ 0))] w fun e w' => e = .returned (.int .i64 (if N ≤ 0 then 1 else 0)) ∧ w = w') := fun w => by simpa using truth_any (decide (N ≤ 0)) w
  obtain ⟨q, hq⟩ : ∃ q : Int, (if N ≤ 0 then 1 else 0) = q := ⟨_, rfl⟩
  rw [hq] at HT ⊢
  clear hq
  have bx := h.cellK 0 rfl
  have fx := h.frozenK 0 rfl
  have row := h.rowO 0 rfl
  have r0 : w.cell? ⟨gi, 0, none⟩ = some (.int .i64 1) := row.cellAt 0 (by simp)
  have r1 : w.cell? ⟨gi, 1, none⟩ = some (.int .i64 0) := row.cellAt 1 (by simp)
  have r2 : w.cell? ⟨gi, 2, none⟩ = some (.int .i64 i2) := row.cellAt 2 (by simp)
  have hw1 : IntKind.i64.wrap (n - 1) = n - 1 := by simp [IntKind.wrap, IntKind.bits, IntKind.signed]; omega
  have MS := Lib.hid ((h.set (i := 1) (.int .i64 1)).set (i := 2) (.int .i64 N))
  go_enter Tryd.func71, Tryd.ntmps71
  go_upto_region 13 with fail
  clear hN
  generalize World.setCell (World.setCell _ _ _) _ _ = w3 at MS ⊢
  clear h bx fx row r0 r1 r2
  have M3 : Hid (Mem w0 w3 (⟨g, t, k3 false 1 N⟩ :: Ks) (intR (some ⟨gi, 0, none⟩) ci [1, 0, i2] :: Os)) := MS
  clear MS hne hne2
  have bx := M3.out.cellK 0 rfl
  have row := M3.out.rowO 0 rfl
  have p2 : w3.cell? ⟨g, 2, none⟩ = some (.int .i64 N) := bx 2
  have r2 : w3.cell? ⟨gi, 2, none⟩ = some (.int .i64 i2) := row.cellAt 2 (by simp)
  have q9 : w3.drew.cell? ⟨g, 2, none⟩ = some (.int .i64 N) ∧ w3.drew.cell? ⟨gi, 2, none⟩ = some (.int .i64 i2) := ⟨p2, r2⟩
  have hlt := (M3.out.ltK 0 rfl).2
  have hlt2 := lt_of_cell r2
  have MF := Lib.hid ((M3.out.alloc 3 #[.int .i64 q, .int .i64 N]).drew.asRow (sz := 1) (n := 2) (xs := ints [q, N]) rfl rfl (by decide))
  clear M3 bx row
  go_region_held3 (fun w' => w'.cell? ⟨g, 2, none⟩ = some (.int .i64 N) ∧ w'.cell? ⟨gi, 2, none⟩ = some (.int .i64 i2))
    (first | with_reducible assumption | (refine ⟨?_, ?_⟩ <;> go_simp))
    ((go_at_call 73
      refine (HT.out _).mono ?_
      rintro e w4 ⟨rfl, rfl⟩
      dsimp only))
  go_wp2
  go_ret
  exact ⟨_, rfl, MF.out⟩

set_option maxRecDepth 100000 in
set_option maxHeartbeats 12800000 in
theorem ctd_B1 {w0 w : World} {Ks : List Box} {Os : List Row} {g gi ci : Nat} {t : TypeId} {p n i2 now : Int} (h : Mem w0 w (⟨g, t, k3 false p n⟩ :: Ks) (intR (some ⟨gi, 0, none⟩) ci [1, 1, i2] :: Os)) (hp : ¬ p = 0) :
    Calls Tryd.prog 71 #[.pointer (some ⟨g, 0, none⟩), .slice (some ⟨gi, 0, none⟩) 3 ci, .int .i64 now] w fun e w' => ∃ g', e = .returned (.slice (some ⟨g', 0, none⟩) 2 2) ∧ Mem w0 w' (⟨g, t, k3 false 1 i2⟩ :: Ks) (intR (some ⟨g', 0, none⟩) 2 [(if i2 ≤ 0 then 1 else 0), i2] :: intR (some ⟨gi, 0, none⟩) ci [1, 1, i2] :: Os) := by
  have hne : gi ≠ g := h.dis _ (List.mem_cons_self ..) _ (List.mem_cons_self ..) _ rfl
  have hne2 : g ≠ gi := Ne.symm hne

  have HT : Hid (∀ w : World, Calls Tryd.prog 73 #[.bool (decide (i2 ≤ 0))] w fun e w' => e = .returned (.int .i64 (if i2 ≤ 0 then 1 else 0)) ∧ w = w') := fun w => by simpa using truth_any (decide (i2 ≤ 0)) w
  obtain ⟨q, hq⟩ : ∃ q : Int, (if i2 ≤ 0 then 1 else 0) = q := ⟨_, rfl⟩
  rw [hq] at HT ⊢
  clear hq
  have bx := h.cellK 0 rfl
  have fx := h.frozenK 0 rfl
  have row := h.rowO 0 rfl
  have r0 : w.cell? ⟨gi, 0, none⟩ = some (.int .i64 1) := row.cellAt 0 (by simp)
  have r1 : w.cell? ⟨gi, 1, none⟩ = some (.int .i64 1) := row.cellAt 1 (by simp)
  have r2 : w.cell? ⟨gi, 2, none⟩ = some (.int .i64 i2) := row.cellAt 2 (by simp)
  have hp1 : (p == 0) = false := by simpa using hp
  have MS := Lib.hid ((h.set (i := 1) (.int .i64 1)).set (i := 2) (.int .i64 i2))
  go_enter Tryd.func71, Tryd.ntmps71
  go_upto_region 13 with fail
  generalize World.setCell (World.setCell _ _ _) _ _ = w3 at MS ⊢
  clear h bx fx row r0 r1 r2
  have M3 : Hid (Mem w0 w3 (⟨g, t, k3 false 1 i2⟩ :: Ks) (intR (some ⟨gi, 0, none⟩) ci [1, 1, i2] :: Os)) := MS
  clear MS hne hne2
  have bx := M3.out.cellK 0 rfl
  have row := M3.out.rowO 0 rfl
  have p2 : w3.cell? ⟨g, 2, none⟩ = some (.int .i64 i2) := bx 2
  have r2 : w3.cell? ⟨gi, 2, none⟩ = some (.int .i64 i2) := row.cellAt 2 (by simp)
  have q9 : w3.drew.cell? ⟨g, 2, none⟩ = some (.int .i64 i2) ∧ w3.drew.cell? ⟨gi, 2, none⟩ = some (.int .i64 i2) := ⟨p2, r2⟩
  have hlt := (M3.out.ltK 0 rfl).2
  have hlt2 := lt_of_cell r2
  have MF := Lib.hid ((M3.out.alloc 3 #[.int .i64 q, .int .i64 i2]).drew.asRow (sz := 1) (n := 2) (xs := ints [q, i2]) rfl rfl (by decide))
  clear M3 bx row
  go_region_held3 (fun w' => w'.cell? ⟨g, 2, none⟩ = some (.int .i64 i2) ∧ w'.cell? ⟨gi, 2, none⟩ = some (.int .i64 i2))
    (first | with_reducible assumption | (refine ⟨?_, ?_⟩ <;> go_simp))
    ((go_at_call 73
      refine (HT.out _).mono ?_
      rintro e w4 ⟨rfl, rfl⟩
      dsimp only))
  go_wp2
  go_ret
  exact ⟨_, rfl, MF.out⟩

set_option maxRecDepth 100000 in
set_option maxHeartbeats 12800000 in
theorem ctd_B0 {w0 w : World} {Ks : List Box} {Os : List Row} {g gi ci : Nat} {t : TypeId} {p n i2 now : Int} (h : Mem w0 w (⟨g, t, k3 false p n⟩ :: Ks) (intR (some ⟨gi, 0, none⟩) ci [1, 0, i2] :: Os)) (hp : ¬ p = 0) :
    Calls Tryd.prog 71 #[.pointer (some ⟨g, 0, none⟩), .slice (some ⟨gi, 0, none⟩) 3 ci, .int .i64 now] w fun e w' => ∃ g', e = .returned (.slice (some ⟨g', 0, none⟩) 2 2) ∧ Mem w0 w' (⟨g, t, k3 false 1 n⟩ :: Ks) (intR (some ⟨g', 0, none⟩) 2 [(if n ≤ 0 then 1 else 0), n] :: intR (some ⟨gi, 0, none⟩) ci [1, 0, i2] :: Os) := by
  have hne : gi ≠ g := h.dis _ (List.mem_cons_self ..) _ (List.mem_cons_self ..) _ rfl
  have hne2 : g ≠ gi := Ne.symm hne

  have HT : Hid (∀ w : World, Calls Tryd.prog 73 #[.bool (decide (n ≤ 0))] w fun e w' => e = .returned (.int .i64 (if n ≤ 0 then 1 else 0)) ∧ w = w') := fun w => by simpa using truth_any (decide (n ≤ 0)) w
  obtain ⟨q, hq⟩ : ∃ q : Int, (if n ≤ 0 then 1 else 0) = q := ⟨_, rfl⟩
  rw [hq] at HT ⊢
  clear hq
  have bx := h.cellK 0 rfl
  have fx := h.frozenK 0 rfl
  have row := h.rowO 0 rfl
  have r0 : w.cell? ⟨gi, 0, none⟩ = some (.int .i64 1) := row.cellAt 0 (by simp)
  have r1 : w.cell? ⟨gi, 1, none⟩ = some (.int .i64 0) := row.cellAt 1 (by simp)
  have r2 : w.cell? ⟨gi, 2, none⟩ = some (.int .i64 i2) := row.cellAt 2 (by simp)
  have hp1 : (p == 0) = false := by simpa using hp
  have MS := Lib.hid (h.set (i := 1) (.int .i64 1))
  go_enter Tryd.func71, Tryd.ntmps71
  go_upto_region 13 with fail
  generalize World.setCell _ _ _ = w3 at MS ⊢
  clear h bx fx row r0 r1 r2
  have M3 : Hid (Mem w0 w3 (⟨g, t, k3 false 1 n⟩ :: Ks) (intR (some ⟨gi, 0, none⟩) ci [1, 0, i2] :: Os)) := MS
  clear MS hne hne2
  have bx := M3.out.cellK 0 rfl
  have row := M3.out.rowO 0 rfl
  have p2 : w3.cell? ⟨g, 2, none⟩ = some (.int .i64 n) := bx 2
  have r2 : w3.cell? ⟨gi, 2, none⟩ = some (.int .i64 i2) := row.cellAt 2 (by simp)
  have q9 : w3.drew.cell? ⟨g, 2, none⟩ = some (.int .i64 n) ∧ w3.drew.cell? ⟨gi, 2, none⟩ = some (.int .i64 i2) := ⟨p2, r2⟩
  have hlt := (M3.out.ltK 0 rfl).2
  have hlt2 := lt_of_cell r2
  have MF := Lib.hid ((M3.out.alloc 3 #[.int .i64 q, .int .i64 n]).drew.asRow (sz := 1) (n := 2) (xs := ints [q, n]) rfl rfl (by decide))
  clear M3 bx row
  go_region_held3 (fun w' => w'.cell? ⟨g, 2, none⟩ = some (.int .i64 n) ∧ w'.cell? ⟨gi, 2, none⟩ = some (.int .i64 i2))
    (first | with_reducible assumption | (refine ⟨?_, ?_⟩ <;> go_simp))
    ((go_at_call 73
      refine (HT.out _).mono ?_
      rintro e w4 ⟨rfl, rfl⟩
      dsimp only))
  go_wp2
  go_ret
  exact ⟨_, rfl, MF.out⟩

set_option maxRecDepth 100000 in
set_option maxHeartbeats 12800000 in
theorem ctd_C1 {w0 w : World} {Ks : List Box} {Os : List Row} {g gi ci : Nat} {t : TypeId} {p n i2 now : Int} (h : Mem w0 w (⟨g, t, k3 false p n⟩ :: Ks) (intR (some ⟨gi, 0, none⟩) ci [0, 1, i2] :: Os)) :
    Calls Tryd.prog 71 #[.pointer (some ⟨g, 0, none⟩), .slice (some ⟨gi, 0, none⟩) 3 ci, .int .i64 now] w fun e w' => ∃ g', e = .returned (.slice (some ⟨g', 0, none⟩) 2 2) ∧ Mem w0 w' (⟨g, t, k3 false 0 i2⟩ :: Ks) (intR (some ⟨g', 0, none⟩) 2 [(if i2 ≤ 0 then 1 else 0), i2] :: intR (some ⟨gi, 0, none⟩) ci [0, 1, i2] :: Os) := by
  have hne : gi ≠ g := h.dis _ (List.mem_cons_self ..) _ (List.mem_cons_self ..) _ rfl
  have hne2 : g ≠ gi := Ne.symm hne

  have HT : Hid (∀ w : World, Calls Tryd.prog 73 #[.bool (decide (i2 ≤ 0))] w fun e w' => e = .returned (.int .i64 (if i2 ≤ 0 then 1 else 0)) ∧ w = w') := fun w => by simpa using truth_any (decide (i2 ≤ 0)) w
  obtain ⟨q, hq⟩ : ∃ q : Int, (if i2 ≤ 0 then 1 else 0) = q := ⟨_, rfl⟩
  rw [hq] at HT ⊢
  clear hq
  have bx := h.cellK 0 rfl
  have fx := h.frozenK 0 rfl
  have row := h.rowO 0 rfl
  have r0 : w.cell? ⟨gi, 0, none⟩ = some (.int .i64 0) := row.cellAt 0 (by simp)
  have r1 : w.cell? ⟨gi, 1, none⟩ = some (.int .i64 1) := row.cellAt 1 (by simp)
  have r2 : w.cell? ⟨gi, 2, none⟩ = some (.int .i64 i2) := row.cellAt 2 (by simp)
  have MS := Lib.hid ((h.set (i := 1) (.int .i64 0)).set (i := 2) (.int .i64 i2))
  go_enter Tryd.func71, Tryd.ntmps71
  go_upto_region 13 with fail
  generalize World.setCell (World.setCell _ _ _) _ _ = w3 at MS ⊢
  clear h bx fx row r0 r1 r2
  have M3 : Hid (Mem w0 w3 (⟨g, t, k3 false 0 i2⟩ :: Ks) (intR (some ⟨gi, 0, none⟩) ci [0, 1, i2] :: Os)) := MS
  clear MS hne hne2
  have bx := M3.out.cellK 0 rfl
  have row := M3.out.rowO 0 rfl
  have p2 : w3.cell? ⟨g, 2, none⟩ = some (.int .i64 i2) := bx 2
  have r2 : w3.cell? ⟨gi, 2, none⟩ = some (.int .i64 i2) := row.cellAt 2 (by simp)
  have q9 : w3.drew.cell? ⟨g, 2, none⟩ = some (.int .i64 i2) ∧ w3.drew.cell? ⟨gi, 2, none⟩ = some (.int .i64 i2) := ⟨p2, r2⟩
  have hlt := (M3.out.ltK 0 rfl).2
  have hlt2 := lt_of_cell r2
  have MF := Lib.hid ((M3.out.alloc 3 #[.int .i64 q, .int .i64 i2]).drew.asRow (sz := 1) (n := 2) (xs := ints [q, i2]) rfl rfl (by decide))
  clear M3 bx row
  go_region_held3 (fun w' => w'.cell? ⟨g, 2, none⟩ = some (.int .i64 i2) ∧ w'.cell? ⟨gi, 2, none⟩ = some (.int .i64 i2))
    (first | with_reducible assumption | (refine ⟨?_, ?_⟩ <;> go_simp))
    ((go_at_call 73
      refine (HT.out _).mono ?_
      rintro e w4 ⟨rfl, rfl⟩
      dsimp only))
  go_wp2
  go_ret
  exact ⟨_, rfl, MF.out⟩

set_option maxRecDepth 100000 in
set_option maxHeartbeats 12800000 in
theorem ctd_C0 {w0 w : World} {Ks : List Box} {Os : List Row} {g gi ci : Nat} {t : TypeId} {p n i2 now : Int} (h : Mem w0 w (⟨g, t, k3 false p n⟩ :: Ks) (intR (some ⟨gi, 0, none⟩) ci [0, 0, i2] :: Os)) :
    Calls Tryd.prog 71 #[.pointer (some ⟨g, 0, none⟩), .slice (some ⟨gi, 0, none⟩) 3 ci, .int .i64 now] w fun e w' => ∃ g', e = .returned (.slice (some ⟨g', 0, none⟩) 2 2) ∧ Mem w0 w' (⟨g, t, k3 false 0 n⟩ :: Ks) (intR (some ⟨g', 0, none⟩) 2 [(if n ≤ 0 then 1 else 0), n] :: intR (some ⟨gi, 0, none⟩) ci [0, 0, i2] :: Os) := by
  have hne : gi ≠ g := h.dis _ (List.mem_cons_self ..) _ (List.mem_cons_self ..) _ rfl
  have hne2 : g ≠ gi := Ne.symm hne

  have HT : Hid (∀ w : World, Calls Tryd.prog 73 #[.bool (decide (n ≤ 0))] w fun e w' => e = .returned (.int .i64 (if n ≤ 0 then 1 else 0)) ∧ w = w') := fun w => by simpa using truth_any (decide (n ≤ 0)) w
  obtain ⟨q, hq⟩ : ∃ q : Int, (if n ≤ 0 then 1 else 0) = q := ⟨_, rfl⟩
  rw [hq] at HT ⊢
  clear hq
  have bx := h.cellK 0 rfl
  have fx := h.frozenK 0 rfl
  have row := h.rowO 0 rfl
  have r0 : w.cell? ⟨gi, 0, none⟩ = some (.int .i64 0) := row.cellAt 0 (by simp)
  have r1 : w.cell? ⟨gi, 1, none⟩ = some (.int .i64 0) := row.cellAt 1 (by simp)
  have r2 : w.cell? ⟨gi, 2, none⟩ = some (.int .i64 i2) := row.cellAt 2 (by simp)
  have MS := Lib.hid (h.set (i := 1) (.int .i64 0))
  go_enter Tryd.func71, Tryd.ntmps71
  go_upto_region 13 with fail
  generalize World.setCell _ _ _ = w3 at MS ⊢
  clear h bx fx row r0 r1 r2
  have M3 : Hid (Mem w0 w3 (⟨g, t, k3 false 0 n⟩ :: Ks) (intR (some ⟨gi, 0, none⟩) ci [0, 0, i2] :: Os)) := MS
  clear MS hne hne2
  have bx := M3.out.cellK 0 rfl
  have row := M3.out.rowO 0 rfl
  have p2 : w3.cell? ⟨g, 2, none⟩ = some (.int .i64 n) := bx 2
  have r2 : w3.cell? ⟨gi, 2, none⟩ = some (.int .i64 i2) := row.cellAt 2 (by simp)
  have q9 : w3.drew.cell? ⟨g, 2, none⟩ = some (.int .i64 n) ∧ w3.drew.cell? ⟨gi, 2, none⟩ = some (.int .i64 i2) := ⟨p2, r2⟩
  have hlt := (M3.out.ltK 0 rfl).2
  have hlt2 := lt_of_cell r2
  have MF := Lib.hid ((M3.out.alloc 3 #[.int .i64 q, .int .i64 n]).drew.asRow (sz := 1) (n := 2) (xs := ints [q, n]) rfl rfl (by decide))
  clear M3 bx row
  go_region_held3 (fun w' => w'.cell? ⟨g, 2, none⟩ = some (.int .i64 n) ∧ w'.cell? ⟨gi, 2, none⟩ = some (.int .i64 i2))
    (first | with_reducible assumption | (refine ⟨?_, ?_⟩ <;> go_simp))
    ((go_at_call 73
      refine (HT.out _).mono ?_
      rintro e w4 ⟨rfl, rfl⟩
      dsimp only))
  go_wp2
  go_ret
  exact ⟨_, rfl, MF.out⟩

end Go.Proofs.YthgjjclmepfbpaaDoor.Blk
