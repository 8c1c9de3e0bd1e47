/-
  The counter of both ways: load, words, step. Conditions: the box and the row are the call's own; numbers lie within 16 bits.
-/
import Derived.Test.YthgjjclmepfbpaaDoorBlkD
import Derived.Test.YthgjjclmepfbpaaDoorClone
import Derived.BigQuiet
import Derived.BigRegion
namespace Go.Proofs.YthgjjclmepfbpaaDoor.Blk
open Go.RowKit Go.Proofs.YthgjjclmepfbpaaDoor.W Go.Proofs.YthgjjclmepfbpaaDoor.Ints Go.Proofs.YthgjjclmepfbpaaDoor.Cell Go.Proofs.YthgjjclmepfbpaaDoor.Num

theorem load_both {w0 w : World} {Ks : List Box} {Os : List Row} {g gf cf : Nat} {t : TypeId} {v : Value} {a b c : Int} (h : Mem w0 w (⟨g, t, #[v]⟩ :: Ks) (intR (some ⟨gf, 0, none⟩) cf [a, b, c] :: Os)) :
    Calls Tryd.prog 74 #[.pointer (some ⟨g, 0, none⟩), .slice (some ⟨gf, 0, none⟩) 3 cf] w fun e w' => e = .returned (.tuple #[]) ∧ ∃ A' c', Mem w0 w' (⟨g, t, #[.slice A' 3 c']⟩ :: Ks) (intR A' c' [a, b, c] :: intR (some ⟨gf, 0, none⟩) cf [a, b, c] :: Os) := by
  have M := Lib.hid h
  have hc := Clone_any (some ⟨gf, 0, none⟩) 3 cf [a, b, c] w (h.rdO 0 rfl) (by omega)
  have HC := Lib.hid hc
  clear h hc
  go_enter Tryd.func74, Tryd.ntmps74
  go_wp2_with fail
  refine HC.out.mono ?_
  rintro e w1 ⟨A', c', rfl, ho, hb⟩
  dsimp only
  have M1 := Lib.hid (M.out.made hb ho)
  clear M HC ho hb
  have bx := M1.out.cellK 0 rfl
  have fx := M1.out.frozenK 0 rfl
  have MS := Lib.hid (M1.out.set (i := 0) (.slice A' 3 c'))
  go_wp2
  go_end0
  exact ⟨rfl, A', c', MS.out⟩
theorem words_both {w0 w : World} {Ks : List Box} {Os : List Row} {g : Nat} {t : TypeId} {A : Option Addr} {n c : Nat} (h : Mem w0 w (⟨g, t, #[.slice A n c]⟩ :: Ks) Os) :
    Calls Tryd.prog 76 #[.pointer (some ⟨g, 0, none⟩)] w fun e w' => e = .returned (.slice A n c) ∧ w = w' := by
  have bx := h.cellK 0 rfl
  clear h
  go_enter Tryd.func76, Tryd.ntmps76
  go_wp2
  go_ret
  exact ⟨rfl, rfl⟩

set_option maxRecDepth 100000 in
set_option maxHeartbeats 12800000 in
theorem both_AAr {w0 w : World} {Ks : List Box} {Os : List Row} {g gs cs gi ci : Nat} {t : TypeId} {i3 n i4 now : Int} (h : Mem w0 w (⟨g, t, #[.slice (some ⟨gs, 0, none⟩) 3 cs]⟩ :: Ks) (intR (some ⟨gi, 0, none⟩) ci [1, 1, 1, i3, i4] :: intR (some ⟨gs, 0, none⟩) cs [0, 0, n] :: Os)) :
    Calls Tryd.prog 75 #[.pointer (some ⟨g, 0, none⟩), .slice (some ⟨gi, 0, none⟩) 5 ci, .int .i64 now] w fun e w' => ∃ g' g2, e = .returned (.slice (some ⟨g', 0, none⟩) 3 3) ∧ Mem w0 w' (⟨g, t, #[.slice (some ⟨g2, 0, none⟩) 3 3]⟩ :: Ks) (intR (some ⟨g', 0, none⟩) 3 [if i4 ≤ (0 : Int) then 1 else 0, if (0 : Int) ≤ 0 then 1 else 0, (0 : Int)] :: intR (some ⟨g2, 0, none⟩) 3 [1, 1, (0 : Int)] :: intR (some ⟨gi, 0, none⟩) ci [1, 1, 1, i3, i4] :: intR (some ⟨gs, 0, none⟩) cs [0, 0, n] :: Os) := by
  have hne : gi ≠ g := h.dis _ (List.mem_cons_self ..) _ (List.mem_cons_self ..) _ rfl
  have hne2 : g ≠ gi := Ne.symm hne
  have TT : ∀ w : World, Calls Tryd.prog 73 #[.bool true] w fun e w' => e = .returned (.int .i64 1) ∧ w = w' := fun w => by simpa using truth_any true w
  have HT1 : Hid (∀ w : World, Calls Tryd.prog 73 #[.bool (decide (i4 ≤ (0 : Int)))] w fun e w' => e = .returned (.int .i64 (if i4 ≤ (0 : Int) then 1 else 0)) ∧ w = w') := fun w => by simpa using truth_any (decide (i4 ≤ (0 : Int))) w
  obtain ⟨q1, hq1⟩ : ∃ q : Int, (if i4 ≤ (0 : Int) then 1 else 0) = q := ⟨_, rfl⟩
  rw [hq1] at HT1
  have HT2 := Lib.hid TT
  obtain ⟨q2, hq2⟩ : ∃ q : Int, 1 = q := ⟨_, rfl⟩
  rw [hq2] at HT2
  have hz2 : (if (0 : Int) ≤ 0 then (1 : Int) else 0) = q2 := by rw [if_pos (Int.le_refl _)]; exact hq2
  rw [hq1, hz2]
  clear hq1 hq2 TT hz2
  have bx := h.cellK 0 rfl
  have row := h.rowO 0 rfl
  have rs := h.rowO 1 rfl
  have r0 : w.cell? ⟨gi, 0, none⟩ = some (.int .i64 1) := row.cellAt 0 (by simp)
  have r1 : w.cell? ⟨gi, 1, none⟩ = some (.int .i64 1) := row.cellAt 1 (by simp)
  have r2 : w.cell? ⟨gi, 2, none⟩ = some (.int .i64 1) := row.cellAt 2 (by simp)
  have r3 : w.cell? ⟨gi, 3, none⟩ = some (.int .i64 i3) := row.cellAt 3 (by simp)
  have r4 : w.cell? ⟨gi, 4, none⟩ = some (.int .i64 i4) := row.cellAt 4 (by simp)
  have s0 : w.cell? ⟨gs, 0, none⟩ = some (.int .i64 0) := rs.cellAt 0 (by simp)
  have s1 : w.cell? ⟨gs, 1, none⟩ = some (.int .i64 0) := rs.cellAt 1 (by simp)
  have s2 : w.cell? ⟨gs, 2, none⟩ = some (.int .i64 n) := rs.cellAt 2 (by simp)
  have MD := Lib.hid (fun q => h.drewN q)
  clear h row rs
  go_enter Tryd.func75, Tryd.ntmps75
  go_upto_region 1 with fail
  go_quiet (fail)
  have M2 := Lib.hid (MD.out nq)
  clear MD
  go_upto_region 11 with fail

  clear bx r0 r1 r2 r3 r4 s0 s1 s2
  generalize World.drewN w nq = w2 at M2 ⊢
  have row := M2.out.rowO 0 rfl
  have bx := M2.out.cellK 0 rfl
  have fx := M2.out.frozenK 0 rfl
  have hgl := (M2.out.ltK 0 rfl).2
  have r0 : w2.cell? ⟨gi, 0, none⟩ = some (.int .i64 1) := row.cellAt 0 (by simp)
  have r1 : w2.cell? ⟨gi, 1, none⟩ = some (.int .i64 1) := row.cellAt 1 (by simp)
  have hil := lt_of_cell r0
  have q0 : w2.drew.cell? ⟨gi, 0, none⟩ = some (.int .i64 1) := r0
  have qq : w2.drew.cell? ⟨gi, 1, none⟩ = some (.int .i64 1) := r1
  have hM := (((M2.out.set (i := 0) (.slice (some ⟨w2.heap.size, 0, none⟩) 3 3)).alloc 3 #[.int .i64 1, .int .i64 1, .int .i64 (0 : Int)]).drew.asRow (sz := 1) (n := 3) (xs := ints [1, 1, (0 : Int)]) rfl rfl (by decide))
  simp only [World.size_setCell] at hM
  have MS := Lib.hid hM
  clear hM row
  go_cut [] from 73 to 83 (fun wc => ∃ g2, Hid (Mem w0 wc (⟨g, t, #[.slice (some ⟨g2, 0, none⟩) 3 3]⟩ :: Ks) (intR (some ⟨g2, 0, none⟩) 3 [1, 1, (0 : Int)] :: intR (some ⟨gi, 0, none⟩) ci [1, 1, 1, i3, i4] :: intR (some ⟨gs, 0, none⟩) cs [0, 0, n] :: Os)))
  case first =>
    go_region
    all_goals go_wp2
    all_goals go_meet
    all_goals exact ⟨_, MS⟩
  case rest =>
    obtain ⟨g2, M3⟩ := hcut
    clear MS bx fx r0 r1 q0 qq hgl hil
    obtain ⟨w3, hw3⟩ : ∃ w3 : World, w3 = wc := ⟨_, rfl⟩
    subst hw3
    have row := M3.out.rowO 1 rfl
    have r4 : w3.cell? ⟨gi, 4, none⟩ = some (.int .i64 i4) := row.cellAt 4 (by simp)
    have MF := Lib.hid ((M3.out.alloc 3 #[.int .i64 q1, .int .i64 q2, .int .i64 (0 : Int)]).asRow (sz := 1) (n := 3) (xs := ints [q1, q2, (0 : Int)]) rfl rfl (by decide))
    clear M3 row
    go_wp2_with fail
    refine (HT1.out _).mono ?_
    rintro e w4 ⟨rfl, rfl⟩
    dsimp only
    go_wp2_with fail
    refine (HT2.out _).mono ?_
    rintro e w5 ⟨rfl, rfl⟩
    dsimp only
    go_wp2
    go_ret
    exact ⟨_, _, rfl, MF.out⟩

set_option maxRecDepth 100000 in
set_option maxHeartbeats 12800000 in
theorem both_AAl {w0 w : World} {Ks : List Box} {Os : List Row} {g gs cs gi ci : Nat} {t : TypeId} {n i4 now : Int} (h : Mem w0 w (⟨g, t, #[.slice (some ⟨gs, 0, none⟩) 3 cs]⟩ :: Ks) (intR (some ⟨gi, 0, none⟩) ci [1, 1, 0, 1, i4] :: intR (some ⟨gs, 0, none⟩) cs [0, 0, n] :: Os)) :
    Calls Tryd.prog 75 #[.pointer (some ⟨g, 0, none⟩), .slice (some ⟨gi, 0, none⟩) 5 ci, .int .i64 now] w fun e w' => ∃ g' g2, e = .returned (.slice (some ⟨g', 0, none⟩) 3 3) ∧ Mem w0 w' (⟨g, t, #[.slice (some ⟨g2, 0, none⟩) 3 3]⟩ :: Ks) (intR (some ⟨g', 0, none⟩) 3 [if i4 ≤ i4 then 1 else 0, if i4 ≤ 0 then 1 else 0, i4] :: intR (some ⟨g2, 0, none⟩) 3 [1, 1, i4] :: intR (some ⟨gi, 0, none⟩) ci [1, 1, 0, 1, i4] :: intR (some ⟨gs, 0, none⟩) cs [0, 0, n] :: Os) := by
  have hne : gi ≠ g := h.dis _ (List.mem_cons_self ..) _ (List.mem_cons_self ..) _ rfl
  have hne2 : g ≠ gi := Ne.symm hne
  have TT : ∀ w : World, Calls Tryd.prog 73 #[.bool true] w fun e w' => e = .returned (.int .i64 1) ∧ w = w' := fun w => by simpa using truth_any true w
  have HT1 := Lib.hid TT
  obtain ⟨q1, hq1⟩ : ∃ q : Int, 1 = q := ⟨_, rfl⟩
  rw [hq1] at HT1
  have hz1 : (if i4 ≤ i4 then (1 : Int) else 0) = q1 := by rw [if_pos (Int.le_refl _)]; exact hq1
  have HT2 : Hid (∀ w : World, Calls Tryd.prog 73 #[.bool (decide (i4 ≤ 0))] w fun e w' => e = .returned (.int .i64 (if i4 ≤ 0 then 1 else 0)) ∧ w = w') := fun w => by simpa using truth_any (decide (i4 ≤ 0)) w
  obtain ⟨q2, hq2⟩ : ∃ q : Int, (if i4 ≤ 0 then 1 else 0) = q := ⟨_, rfl⟩
  rw [hq2] at HT2
  rw [hz1, hq2]
  clear hq1 hq2 TT hz1 
  have bx := h.cellK 0 rfl
  have row := h.rowO 0 rfl
  have rs := h.rowO 1 rfl
  have r0 : w.cell? ⟨gi, 0, none⟩ = some (.int .i64 1) := row.cellAt 0 (by simp)
  have r1 : w.cell? ⟨gi, 1, none⟩ = some (.int .i64 1) := row.cellAt 1 (by simp)
  have r2 : w.cell? ⟨gi, 2, none⟩ = some (.int .i64 0) := row.cellAt 2 (by simp)
  have r3 : w.cell? ⟨gi, 3, none⟩ = some (.int .i64 1) := row.cellAt 3 (by simp)
  have r4 : w.cell? ⟨gi, 4, none⟩ = some (.int .i64 i4) := row.cellAt 4 (by simp)
  have s0 : w.cell? ⟨gs, 0, none⟩ = some (.int .i64 0) := rs.cellAt 0 (by simp)
  have s1 : w.cell? ⟨gs, 1, none⟩ = some (.int .i64 0) := rs.cellAt 1 (by simp)
  have s2 : w.cell? ⟨gs, 2, none⟩ = some (.int .i64 n) := rs.cellAt 2 (by simp)
  have MD := Lib.hid (fun q => h.drewN q)
  clear h row rs
  go_enter Tryd.func75, Tryd.ntmps75
  go_upto_region 1 with fail
  go_quiet (fail)
  have M2 := Lib.hid (MD.out nq)
  clear MD
  go_upto_region 11 with fail

  clear bx r0 r1 r2 r3 r4 s0 s1 s2
  generalize World.drewN w nq = w2 at M2 ⊢
  have row := M2.out.rowO 0 rfl
  have bx := M2.out.cellK 0 rfl
  have fx := M2.out.frozenK 0 rfl
  have hgl := (M2.out.ltK 0 rfl).2
  have r0 : w2.cell? ⟨gi, 0, none⟩ = some (.int .i64 1) := row.cellAt 0 (by simp)
  have r1 : w2.cell? ⟨gi, 1, none⟩ = some (.int .i64 1) := row.cellAt 1 (by simp)
  have hil := lt_of_cell r0
  have q0 : w2.drew.cell? ⟨gi, 0, none⟩ = some (.int .i64 1) := r0
  have qq : w2.drew.cell? ⟨gi, 1, none⟩ = some (.int .i64 1) := r1
  have hM := (((M2.out.set (i := 0) (.slice (some ⟨w2.heap.size, 0, none⟩) 3 3)).alloc 3 #[.int .i64 1, .int .i64 1, .int .i64 i4]).drew.asRow (sz := 1) (n := 3) (xs := ints [1, 1, i4]) rfl rfl (by decide))
  simp only [World.size_setCell] at hM
  have MS := Lib.hid hM
  clear hM row
  go_cut [] from 73 to 83 (fun wc => ∃ g2, Hid (Mem w0 wc (⟨g, t, #[.slice (some ⟨g2, 0, none⟩) 3 3]⟩ :: Ks) (intR (some ⟨g2, 0, none⟩) 3 [1, 1, i4] :: intR (some ⟨gi, 0, none⟩) ci [1, 1, 0, 1, i4] :: intR (some ⟨gs, 0, none⟩) cs [0, 0, n] :: Os)))
  case first =>
    go_region
    all_goals go_wp2
    all_goals go_meet
    all_goals exact ⟨_, MS⟩
  case rest =>
    obtain ⟨g2, M3⟩ := hcut
    clear MS bx fx r0 r1 q0 qq hgl hil
    obtain ⟨w3, hw3⟩ : ∃ w3 : World, w3 = wc := ⟨_, rfl⟩
    subst hw3
    have row := M3.out.rowO 1 rfl
    have r4 : w3.cell? ⟨gi, 4, none⟩ = some (.int .i64 i4) := row.cellAt 4 (by simp)
    have MF := Lib.hid ((M3.out.alloc 3 #[.int .i64 q1, .int .i64 q2, .int .i64 i4]).asRow (sz := 1) (n := 3) (xs := ints [q1, q2, i4]) rfl rfl (by decide))
    clear M3 row
    go_wp2_with fail
    refine (HT1.out _).mono ?_
    rintro e w4 ⟨rfl, rfl⟩
    dsimp only
    go_wp2_with fail
    refine (HT2.out _).mono ?_
    rintro e w5 ⟨rfl, rfl⟩
    dsimp only
    go_wp2
    go_ret
    exact ⟨_, _, rfl, MF.out⟩

set_option maxRecDepth 100000 in
set_option maxHeartbeats 12800000 in
theorem both_AAc {w0 w : World} {Ks : List Box} {Os : List Row} {g gs cs gi ci : Nat} {t : TypeId} {n i4 now : Int} (h : Mem w0 w (⟨g, t, #[.slice (some ⟨gs, 0, none⟩) 3 cs]⟩ :: Ks) (intR (some ⟨gi, 0, none⟩) ci [1, 1, 0, 0, i4] :: intR (some ⟨gs, 0, none⟩) cs [0, 0, n] :: Os)) :
    Calls Tryd.prog 75 #[.pointer (some ⟨g, 0, none⟩), .slice (some ⟨gi, 0, none⟩) 5 ci, .int .i64 now] w fun e w' => ∃ g' g2, e = .returned (.slice (some ⟨g', 0, none⟩) 3 3) ∧ Mem w0 w' (⟨g, t, #[.slice (some ⟨g2, 0, none⟩) 3 3]⟩ :: Ks) (intR (some ⟨g', 0, none⟩) 3 [if i4 ≤ n then 1 else 0, if n ≤ 0 then 1 else 0, n] :: intR (some ⟨g2, 0, none⟩) 3 [1, 1, n] :: intR (some ⟨gi, 0, none⟩) ci [1, 1, 0, 0, i4] :: intR (some ⟨gs, 0, none⟩) cs [0, 0, n] :: Os) := by
  have hne : gi ≠ g := h.dis _ (List.mem_cons_self ..) _ (List.mem_cons_self ..) _ rfl
  have hne2 : g ≠ gi := Ne.symm hne
  have TT : ∀ w : World, Calls Tryd.prog 73 #[.bool true] w fun e w' => e = .returned (.int .i64 1) ∧ w = w' := fun w => by simpa using truth_any true w
  have HT1 : Hid (∀ w : World, Calls Tryd.prog 73 #[.bool (decide (i4 ≤ n))] w fun e w' => e = .returned (.int .i64 (if i4 ≤ n then 1 else 0)) ∧ w = w') := fun w => by simpa using truth_any (decide (i4 ≤ n)) w
  obtain ⟨q1, hq1⟩ : ∃ q : Int, (if i4 ≤ n then 1 else 0) = q := ⟨_, rfl⟩
  rw [hq1] at HT1
  have HT2 : Hid (∀ w : World, Calls Tryd.prog 73 #[.bool (decide (n ≤ 0))] w fun e w' => e = .returned (.int .i64 (if n ≤ 0 then 1 else 0)) ∧ w = w') := fun w => by simpa using truth_any (decide (n ≤ 0)) w
  obtain ⟨q2, hq2⟩ : ∃ q : Int, (if n ≤ 0 then 1 else 0) = q := ⟨_, rfl⟩
  rw [hq2] at HT2
  rw [hq1, hq2]
  clear hq1 hq2 TT 
  have bx := h.cellK 0 rfl
  have row := h.rowO 0 rfl
  have rs := h.rowO 1 rfl
  have r0 : w.cell? ⟨gi, 0, none⟩ = some (.int .i64 1) := row.cellAt 0 (by simp)
  have r1 : w.cell? ⟨gi, 1, none⟩ = some (.int .i64 1) := row.cellAt 1 (by simp)
  have r2 : w.cell? ⟨gi, 2, none⟩ = some (.int .i64 0) := row.cellAt 2 (by simp)
  have r3 : w.cell? ⟨gi, 3, none⟩ = some (.int .i64 0) := row.cellAt 3 (by simp)
  have r4 : w.cell? ⟨gi, 4, none⟩ = some (.int .i64 i4) := row.cellAt 4 (by simp)
  have s0 : w.cell? ⟨gs, 0, none⟩ = some (.int .i64 0) := rs.cellAt 0 (by simp)
  have s1 : w.cell? ⟨gs, 1, none⟩ = some (.int .i64 0) := rs.cellAt 1 (by simp)
  have s2 : w.cell? ⟨gs, 2, none⟩ = some (.int .i64 n) := rs.cellAt 2 (by simp)
  have MD := Lib.hid (fun q => h.drewN q)
  clear h row rs
  go_enter Tryd.func75, Tryd.ntmps75
  go_upto_region 1 with fail
  go_quiet (fail)
  have M2 := Lib.hid (MD.out nq)
  clear MD
  go_upto_region 11 with fail

  clear bx r0 r1 r2 r3 r4 s0 s1 s2
  generalize World.drewN w nq = w2 at M2 ⊢
  have row := M2.out.rowO 0 rfl
  have bx := M2.out.cellK 0 rfl
  have fx := M2.out.frozenK 0 rfl
  have hgl := (M2.out.ltK 0 rfl).2
  have r0 : w2.cell? ⟨gi, 0, none⟩ = some (.int .i64 1) := row.cellAt 0 (by simp)
  have r1 : w2.cell? ⟨gi, 1, none⟩ = some (.int .i64 1) := row.cellAt 1 (by simp)
  have hil := lt_of_cell r0
  have q0 : w2.drew.cell? ⟨gi, 0, none⟩ = some (.int .i64 1) := r0
  have qq : w2.drew.cell? ⟨gi, 1, none⟩ = some (.int .i64 1) := r1
  have hM := (((M2.out.set (i := 0) (.slice (some ⟨w2.heap.size, 0, none⟩) 3 3)).alloc 3 #[.int .i64 1, .int .i64 1, .int .i64 n]).drew.asRow (sz := 1) (n := 3) (xs := ints [1, 1, n]) rfl rfl (by decide))
  simp only [World.size_setCell] at hM
  have MS := Lib.hid hM
  clear hM row
  go_cut [] from 73 to 83 (fun wc => ∃ g2, Hid (Mem w0 wc (⟨g, t, #[.slice (some ⟨g2, 0, none⟩) 3 3]⟩ :: Ks) (intR (some ⟨g2, 0, none⟩) 3 [1, 1, n] :: intR (some ⟨gi, 0, none⟩) ci [1, 1, 0, 0, i4] :: intR (some ⟨gs, 0, none⟩) cs [0, 0, n] :: Os)))
  case first =>
    go_region
    all_goals go_wp2
    all_goals go_meet
    all_goals exact ⟨_, MS⟩
  case rest =>
    obtain ⟨g2, M3⟩ := hcut
    clear MS bx fx r0 r1 q0 qq hgl hil
    obtain ⟨w3, hw3⟩ : ∃ w3 : World, w3 = wc := ⟨_, rfl⟩
    subst hw3
    have row := M3.out.rowO 1 rfl
    have r4 : w3.cell? ⟨gi, 4, none⟩ = some (.int .i64 i4) := row.cellAt 4 (by simp)
    have MF := Lib.hid ((M3.out.alloc 3 #[.int .i64 q1, .int .i64 q2, .int .i64 n]).asRow (sz := 1) (n := 3) (xs := ints [q1, q2, n]) rfl rfl (by decide))
    clear M3 row
    go_wp2_with fail
    refine (HT1.out _).mono ?_
    rintro e w4 ⟨rfl, rfl⟩
    dsimp only
    go_wp2_with fail
    refine (HT2.out _).mono ?_
    rintro e w5 ⟨rfl, rfl⟩
    dsimp only
    go_wp2
    go_ret
    exact ⟨_, _, rfl, MF.out⟩

set_option maxRecDepth 100000 in
set_option maxHeartbeats 12800000 in
theorem both_ABr {w0 w : World} {Ks : List Box} {Os : List Row} {g gs cs gi ci : Nat} {t : TypeId} {b i3 n i4 now : Int} (h : Mem w0 w (⟨g, t, #[.slice (some ⟨gs, 0, none⟩) 3 cs]⟩ :: Ks) (intR (some ⟨gi, 0, none⟩) ci [1, 1, 1, i3, i4] :: intR (some ⟨gs, 0, none⟩) cs [0, b, n] :: Os)) (hb : ¬ b = 0) :
    Calls Tryd.prog 75 #[.pointer (some ⟨g, 0, none⟩), .slice (some ⟨gi, 0, none⟩) 5 ci, .int .i64 now] w fun e w' => ∃ g' g2, e = .returned (.slice (some ⟨g', 0, none⟩) 3 3) ∧ Mem w0 w' (⟨g, t, #[.slice (some ⟨g2, 0, none⟩) 3 3]⟩ :: Ks) (intR (some ⟨g', 0, none⟩) 3 [if i4 ≤ (0 : Int) then 1 else 0, if (0 : Int) ≤ 0 then 1 else 0, (0 : Int)] :: intR (some ⟨g2, 0, none⟩) 3 [1, 1, (0 : Int)] :: intR (some ⟨gi, 0, none⟩) ci [1, 1, 1, i3, i4] :: intR (some ⟨gs, 0, none⟩) cs [0, b, n] :: Os) := by
  have hne : gi ≠ g := h.dis _ (List.mem_cons_self ..) _ (List.mem_cons_self ..) _ rfl
  have hne2 : g ≠ gi := Ne.symm hne
  have TT : ∀ w : World, Calls Tryd.prog 73 #[.bool true] w fun e w' => e = .returned (.int .i64 1) ∧ w = w' := fun w => by simpa using truth_any true w
  have HT1 : Hid (∀ w : World, Calls Tryd.prog 73 #[.bool (decide (i4 ≤ (0 : Int)))] w fun e w' => e = .returned (.int .i64 (if i4 ≤ (0 : Int) then 1 else 0)) ∧ w = w') := fun w => by simpa using truth_any (decide (i4 ≤ (0 : Int))) w
  obtain ⟨q1, hq1⟩ : ∃ q : Int, (if i4 ≤ (0 : Int) then 1 else 0) = q := ⟨_, rfl⟩
  rw [hq1] at HT1
  have HT2 := Lib.hid TT
  obtain ⟨q2, hq2⟩ : ∃ q : Int, 1 = q := ⟨_, rfl⟩
  rw [hq2] at HT2
  have hz2 : (if (0 : Int) ≤ 0 then (1 : Int) else 0) = q2 := by rw [if_pos (Int.le_refl _)]; exact hq2
  rw [hq1, hz2]
  clear hq1 hq2 TT hz2
  have bx := h.cellK 0 rfl
  have row := h.rowO 0 rfl
  have rs := h.rowO 1 rfl
  have r0 : w.cell? ⟨gi, 0, none⟩ = some (.int .i64 1) := row.cellAt 0 (by simp)
  have r1 : w.cell? ⟨gi, 1, none⟩ = some (.int .i64 1) := row.cellAt 1 (by simp)
  have r2 : w.cell? ⟨gi, 2, none⟩ = some (.int .i64 1) := row.cellAt 2 (by simp)
  have r3 : w.cell? ⟨gi, 3, none⟩ = some (.int .i64 i3) := row.cellAt 3 (by simp)
  have r4 : w.cell? ⟨gi, 4, none⟩ = some (.int .i64 i4) := row.cellAt 4 (by simp)
  have s0 : w.cell? ⟨gs, 0, none⟩ = some (.int .i64 0) := rs.cellAt 0 (by simp)
  have s1 : w.cell? ⟨gs, 1, none⟩ = some (.int .i64 b) := rs.cellAt 1 (by simp)
  have s2 : w.cell? ⟨gs, 2, none⟩ = some (.int .i64 n) := rs.cellAt 2 (by simp)
  have hb1 : (b == 0) = false := by simpa using hb
  have MD := Lib.hid (fun q => h.drewN q)
  clear h row rs
  go_enter Tryd.func75, Tryd.ntmps75
  go_upto_region 1 with fail
  go_quiet (fail)
  have M2 := Lib.hid (MD.out nq)
  clear MD
  go_upto_region 11 with fail

  clear bx r0 r1 r2 r3 r4 s0 s1 s2
  generalize World.drewN w nq = w2 at M2 ⊢
  have row := M2.out.rowO 0 rfl
  have bx := M2.out.cellK 0 rfl
  have fx := M2.out.frozenK 0 rfl
  have hgl := (M2.out.ltK 0 rfl).2
  have r0 : w2.cell? ⟨gi, 0, none⟩ = some (.int .i64 1) := row.cellAt 0 (by simp)
  have r1 : w2.cell? ⟨gi, 1, none⟩ = some (.int .i64 1) := row.cellAt 1 (by simp)
  have hil := lt_of_cell r0
  have q0 : w2.drew.cell? ⟨gi, 0, none⟩ = some (.int .i64 1) := r0
  have qq : w2.drew.cell? ⟨gi, 1, none⟩ = some (.int .i64 1) := r1
  have hM := (((M2.out.set (i := 0) (.slice (some ⟨w2.heap.size, 0, none⟩) 3 3)).alloc 3 #[.int .i64 1, .int .i64 1, .int .i64 (0 : Int)]).drew.asRow (sz := 1) (n := 3) (xs := ints [1, 1, (0 : Int)]) rfl rfl (by decide))
  simp only [World.size_setCell] at hM
  have MS := Lib.hid hM
  clear hM row
  go_cut [] from 73 to 83 (fun wc => ∃ g2, Hid (Mem w0 wc (⟨g, t, #[.slice (some ⟨g2, 0, none⟩) 3 3]⟩ :: Ks) (intR (some ⟨g2, 0, none⟩) 3 [1, 1, (0 : Int)] :: intR (some ⟨gi, 0, none⟩) ci [1, 1, 1, i3, i4] :: intR (some ⟨gs, 0, none⟩) cs [0, b, n] :: Os)))
  case first =>
    go_region
    all_goals go_wp2
    all_goals go_meet
    all_goals exact ⟨_, MS⟩
  case rest =>
    obtain ⟨g2, M3⟩ := hcut
    clear MS bx fx r0 r1 q0 qq hgl hil
    obtain ⟨w3, hw3⟩ : ∃ w3 : World, w3 = wc := ⟨_, rfl⟩
    subst hw3
    have row := M3.out.rowO 1 rfl
    have r4 : w3.cell? ⟨gi, 4, none⟩ = some (.int .i64 i4) := row.cellAt 4 (by simp)
    have MF := Lib.hid ((M3.out.alloc 3 #[.int .i64 q1, .int .i64 q2, .int .i64 (0 : Int)]).asRow (sz := 1) (n := 3) (xs := ints [q1, q2, (0 : Int)]) rfl rfl (by decide))
    clear M3 row
    go_wp2_with fail
    refine (HT1.out _).mono ?_
    rintro e w4 ⟨rfl, rfl⟩
    dsimp only
    go_wp2_with fail
    refine (HT2.out _).mono ?_
    rintro e w5 ⟨rfl, rfl⟩
    dsimp only
    go_wp2
    go_ret
    exact ⟨_, _, rfl, MF.out⟩

set_option maxRecDepth 100000 in
set_option maxHeartbeats 12800000 in
theorem both_ABl {w0 w : World} {Ks : List Box} {Os : List Row} {g gs cs gi ci : Nat} {t : TypeId} {b n i4 now : Int} (h : Mem w0 w (⟨g, t, #[.slice (some ⟨gs, 0, none⟩) 3 cs]⟩ :: Ks) (intR (some ⟨gi, 0, none⟩) ci [1, 1, 0, 1, i4] :: intR (some ⟨gs, 0, none⟩) cs [0, b, n] :: Os)) (hb : ¬ b = 0) :
    Calls Tryd.prog 75 #[.pointer (some ⟨g, 0, none⟩), .slice (some ⟨gi, 0, none⟩) 5 ci, .int .i64 now] w fun e w' => ∃ g' g2, e = .returned (.slice (some ⟨g', 0, none⟩) 3 3) ∧ Mem w0 w' (⟨g, t, #[.slice (some ⟨g2, 0, none⟩) 3 3]⟩ :: Ks) (intR (some ⟨g', 0, none⟩) 3 [if i4 ≤ i4 then 1 else 0, if i4 ≤ 0 then 1 else 0, i4] :: intR (some ⟨g2, 0, none⟩) 3 [1, 1, i4] :: intR (some ⟨gi, 0, none⟩) ci [1, 1, 0, 1, i4] :: intR (some ⟨gs, 0, none⟩) cs [0, b, n] :: Os) := by
  have hne : gi ≠ g := h.dis _ (List.mem_cons_self ..) _ (List.mem_cons_self ..) _ rfl
  have hne2 : g ≠ gi := Ne.symm hne
  have TT : ∀ w : World, Calls Tryd.prog 73 #[.bool true] w fun e w' => e = .returned (.int .i64 1) ∧ w = w' := fun w => by simpa using truth_any true w
  have HT1 := Lib.hid TT
  obtain ⟨q1, hq1⟩ : ∃ q : Int, 1 = q := ⟨_, rfl⟩
  rw [hq1] at HT1
  have hz1 : (if i4 ≤ i4 then (1 : Int) else 0) = q1 := by rw [if_pos (Int.le_refl _)]; exact hq1
  have HT2 : Hid (∀ w : World, Calls Tryd.prog 73 #[.bool (decide (i4 ≤ 0))] w fun e w' => e = .returned (.int .i64 (if i4 ≤ 0 then 1 else 0)) ∧ w = w') := fun w => by simpa using truth_any (decide (i4 ≤ 0)) w
  obtain ⟨q2, hq2⟩ : ∃ q : Int, (if i4 ≤ 0 then 1 else 0) = q := ⟨_, rfl⟩
  rw [hq2] at HT2
  rw [hz1, hq2]
  clear hq1 hq2 TT hz1 
  have bx := h.cellK 0 rfl
  have row := h.rowO 0 rfl
  have rs := h.rowO 1 rfl
  have r0 : w.cell? ⟨gi, 0, none⟩ = some (.int .i64 1) := row.cellAt 0 (by simp)
  have r1 : w.cell? ⟨gi, 1, none⟩ = some (.int .i64 1) := row.cellAt 1 (by simp)
  have r2 : w.cell? ⟨gi, 2, none⟩ = some (.int .i64 0) := row.cellAt 2 (by simp)
  have r3 : w.cell? ⟨gi, 3, none⟩ = some (.int .i64 1) := row.cellAt 3 (by simp)
  have r4 : w.cell? ⟨gi, 4, none⟩ = some (.int .i64 i4) := row.cellAt 4 (by simp)
  have s0 : w.cell? ⟨gs, 0, none⟩ = some (.int .i64 0) := rs.cellAt 0 (by simp)
  have s1 : w.cell? ⟨gs, 1, none⟩ = some (.int .i64 b) := rs.cellAt 1 (by simp)
  have s2 : w.cell? ⟨gs, 2, none⟩ = some (.int .i64 n) := rs.cellAt 2 (by simp)
  have hb1 : (b == 0) = false := by simpa using hb
  have MD := Lib.hid (fun q => h.drewN q)
  clear h row rs
  go_enter Tryd.func75, Tryd.ntmps75
  go_upto_region 1 with fail
  go_quiet (fail)
  have M2 := Lib.hid (MD.out nq)
  clear MD
  go_upto_region 11 with fail

  clear bx r0 r1 r2 r3 r4 s0 s1 s2
  generalize World.drewN w nq = w2 at M2 ⊢
  have row := M2.out.rowO 0 rfl
  have bx := M2.out.cellK 0 rfl
  have fx := M2.out.frozenK 0 rfl
  have hgl := (M2.out.ltK 0 rfl).2
  have r0 : w2.cell? ⟨gi, 0, none⟩ = some (.int .i64 1) := row.cellAt 0 (by simp)
  have r1 : w2.cell? ⟨gi, 1, none⟩ = some (.int .i64 1) := row.cellAt 1 (by simp)
  have hil := lt_of_cell r0
  have q0 : w2.drew.cell? ⟨gi, 0, none⟩ = some (.int .i64 1) := r0
  have qq : w2.drew.cell? ⟨gi, 1, none⟩ = some (.int .i64 1) := r1
  have hM := (((M2.out.set (i := 0) (.slice (some ⟨w2.heap.size, 0, none⟩) 3 3)).alloc 3 #[.int .i64 1, .int .i64 1, .int .i64 i4]).drew.asRow (sz := 1) (n := 3) (xs := ints [1, 1, i4]) rfl rfl (by decide))
  simp only [World.size_setCell] at hM
  have MS := Lib.hid hM
  clear hM row
  go_cut [] from 73 to 83 (fun wc => ∃ g2, Hid (Mem w0 wc (⟨g, t, #[.slice (some ⟨g2, 0, none⟩) 3 3]⟩ :: Ks) (intR (some ⟨g2, 0, none⟩) 3 [1, 1, i4] :: intR (some ⟨gi, 0, none⟩) ci [1, 1, 0, 1, i4] :: intR (some ⟨gs, 0, none⟩) cs [0, b, n] :: Os)))
  case first =>
    go_region
    all_goals go_wp2
    all_goals go_meet
    all_goals exact ⟨_, MS⟩
  case rest =>
    obtain ⟨g2, M3⟩ := hcut
    clear MS bx fx r0 r1 q0 qq hgl hil
    obtain ⟨w3, hw3⟩ : ∃ w3 : World, w3 = wc := ⟨_, rfl⟩
    subst hw3
    have row := M3.out.rowO 1 rfl
    have r4 : w3.cell? ⟨gi, 4, none⟩ = some (.int .i64 i4) := row.cellAt 4 (by simp)
    have MF := Lib.hid ((M3.out.alloc 3 #[.int .i64 q1, .int .i64 q2, .int .i64 i4]).asRow (sz := 1) (n := 3) (xs := ints [q1, q2, i4]) rfl rfl (by decide))
    clear M3 row
    go_wp2_with fail
    refine (HT1.out _).mono ?_
    rintro e w4 ⟨rfl, rfl⟩
    dsimp only
    go_wp2_with fail
    refine (HT2.out _).mono ?_
    rintro e w5 ⟨rfl, rfl⟩
    dsimp only
    go_wp2
    go_ret
    exact ⟨_, _, rfl, MF.out⟩

set_option maxRecDepth 100000 in
set_option maxHeartbeats 12800000 in
theorem both_ABc {w0 w : World} {Ks : List Box} {Os : List Row} {g gs cs gi ci : Nat} {t : TypeId} {b n i4 now : Int} (h : Mem w0 w (⟨g, t, #[.slice (some ⟨gs, 0, none⟩) 3 cs]⟩ :: Ks) (intR (some ⟨gi, 0, none⟩) ci [1, 1, 0, 0, i4] :: intR (some ⟨gs, 0, none⟩) cs [0, b, n] :: Os)) (hb : ¬ b = 0) (hn : -32768 ≤ n) (hn' : n ≤ 32767) :
    Calls Tryd.prog 75 #[.pointer (some ⟨g, 0, none⟩), .slice (some ⟨gi, 0, none⟩) 5 ci, .int .i64 now] w fun e w' => ∃ g' g2, e = .returned (.slice (some ⟨g', 0, none⟩) 3 3) ∧ Mem w0 w' (⟨g, t, #[.slice (some ⟨g2, 0, none⟩) 3 3]⟩ :: Ks) (intR (some ⟨g', 0, none⟩) 3 [if i4 ≤ (min (n + 1) 32767) then 1 else 0, if (min (n + 1) 32767) ≤ 0 then 1 else 0, (min (n + 1) 32767)] :: intR (some ⟨g2, 0, none⟩) 3 [1, 1, (min (n + 1) 32767)] :: intR (some ⟨gi, 0, none⟩) ci [1, 1, 0, 0, i4] :: intR (some ⟨gs, 0, none⟩) cs [0, b, n] :: Os) := by
  have hne : gi ≠ g := h.dis _ (List.mem_cons_self ..) _ (List.mem_cons_self ..) _ rfl
  have hne2 : g ≠ gi := Ne.symm hne
  obtain ⟨N, hN⟩ : ∃ N : Int, (min (n + 1) 32767) = N := ⟨_, rfl⟩
  rw [hN]
  have TT : ∀ w : World, Calls Tryd.prog 73 #[.bool true] w fun e w' => e = .returned (.int .i64 1) ∧ w = w' := fun w => by simpa using truth_any true w
  have HT1 : Hid (∀ w : World, Calls Tryd.prog 73 #[.bool (decide (i4 ≤ N))] w fun e w' => e = .returned (.int .i64 (if i4 ≤ N then 1 else 0)) ∧ w = w') := fun w => by simpa using truth_any (decide (i4 ≤ N)) w
  obtain ⟨q1, hq1⟩ : ∃ q : Int, (if i4 ≤ N then 1 else 0) = q := ⟨_, rfl⟩
  rw [hq1] at HT1
  have HT2 : Hid (∀ w : World, Calls Tryd.prog 73 #[.bool (decide (N ≤ 0))] w fun e w' => e = .returned (.int .i64 (if N ≤ 0 then 1 else 0)) ∧ w = w') := fun w => by simpa using truth_any (decide (N ≤ 0)) w
  obtain ⟨q2, hq2⟩ : ∃ q : Int, (if N ≤ 0 then 1 else 0) = q := ⟨_, rfl⟩
  rw [hq2] at HT2
  rw [hq1, hq2]
  clear hq1 hq2 TT 
  have bx := h.cellK 0 rfl
  have row := h.rowO 0 rfl
  have rs := h.rowO 1 rfl
  have r0 : w.cell? ⟨gi, 0, none⟩ = some (.int .i64 1) := row.cellAt 0 (by simp)
  have r1 : w.cell? ⟨gi, 1, none⟩ = some (.int .i64 1) := row.cellAt 1 (by simp)
  have r2 : w.cell? ⟨gi, 2, none⟩ = some (.int .i64 0) := row.cellAt 2 (by simp)
  have r3 : w.cell? ⟨gi, 3, none⟩ = some (.int .i64 0) := row.cellAt 3 (by simp)
  have r4 : w.cell? ⟨gi, 4, none⟩ = some (.int .i64 i4) := row.cellAt 4 (by simp)
  have s0 : w.cell? ⟨gs, 0, none⟩ = some (.int .i64 0) := rs.cellAt 0 (by simp)
  have s1 : w.cell? ⟨gs, 1, none⟩ = some (.int .i64 b) := rs.cellAt 1 (by simp)
  have s2 : w.cell? ⟨gs, 2, none⟩ = some (.int .i64 n) := rs.cellAt 2 (by simp)
  have hb1 : (b == 0) = false := by simpa using hb
  have hw1 : IntKind.i64.wrap (n + 1) = n + 1 := by simp [IntKind.wrap, IntKind.bits, IntKind.signed]; omega
  have MD := Lib.hid (fun q => h.drewN q)
  clear h row rs
  go_enter Tryd.func75, Tryd.ntmps75
  go_upto_region 1 with fail
  go_quiet (fail)
  have M2 := Lib.hid (MD.out nq)
  clear MD
  go_upto_region 11 with fail
  clear hN
  clear bx r0 r1 r2 r3 r4 s0 s1 s2
  generalize World.drewN w nq = w2 at M2 ⊢
  have row := M2.out.rowO 0 rfl
  have bx := M2.out.cellK 0 rfl
  have fx := M2.out.frozenK 0 rfl
  have hgl := (M2.out.ltK 0 rfl).2
  have r0 : w2.cell? ⟨gi, 0, none⟩ = some (.int .i64 1) := row.cellAt 0 (by simp)
  have r1 : w2.cell? ⟨gi, 1, none⟩ = some (.int .i64 1) := row.cellAt 1 (by simp)
  have hil := lt_of_cell r0
  have q0 : w2.drew.cell? ⟨gi, 0, none⟩ = some (.int .i64 1) := r0
  have qq : w2.drew.cell? ⟨gi, 1, none⟩ = some (.int .i64 1) := r1
  have hM := (((M2.out.set (i := 0) (.slice (some ⟨w2.heap.size, 0, none⟩) 3 3)).alloc 3 #[.int .i64 1, .int .i64 1, .int .i64 N]).drew.asRow (sz := 1) (n := 3) (xs := ints [1, 1, N]) rfl rfl (by decide))
  simp only [World.size_setCell] at hM
  have MS := Lib.hid hM
  clear hM row
  go_cut [] from 73 to 83 (fun wc => ∃ g2, Hid (Mem w0 wc (⟨g, t, #[.slice (some ⟨g2, 0, none⟩) 3 3]⟩ :: Ks) (intR (some ⟨g2, 0, none⟩) 3 [1, 1, N] :: intR (some ⟨gi, 0, none⟩) ci [1, 1, 0, 0, i4] :: intR (some ⟨gs, 0, none⟩) cs [0, b, n] :: Os)))
  case first =>
    go_region
    all_goals go_wp2
    all_goals go_meet
    all_goals exact ⟨_, MS⟩
  case rest =>
    obtain ⟨g2, M3⟩ := hcut
    clear MS bx fx r0 r1 q0 qq hgl hil
    obtain ⟨w3, hw3⟩ : ∃ w3 : World, w3 = wc := ⟨_, rfl⟩
    subst hw3
    have row := M3.out.rowO 1 rfl
    have r4 : w3.cell? ⟨gi, 4, none⟩ = some (.int .i64 i4) := row.cellAt 4 (by simp)
    have MF := Lib.hid ((M3.out.alloc 3 #[.int .i64 q1, .int .i64 q2, .int .i64 N]).asRow (sz := 1) (n := 3) (xs := ints [q1, q2, N]) rfl rfl (by decide))
    clear M3 row
    go_wp2_with fail
    refine (HT1.out _).mono ?_
    rintro e w4 ⟨rfl, rfl⟩
    dsimp only
    go_wp2_with fail
    refine (HT2.out _).mono ?_
    rintro e w5 ⟨rfl, rfl⟩
    dsimp only
    go_wp2
    go_ret
    exact ⟨_, _, rfl, MF.out⟩

set_option maxRecDepth 100000 in
set_option maxHeartbeats 12800000 in
theorem both_ACr {w0 w : World} {Ks : List Box} {Os : List Row} {g gs cs gi ci : Nat} {t : TypeId} {b i3 n i4 now : Int} (h : Mem w0 w (⟨g, t, #[.slice (some ⟨gs, 0, none⟩) 3 cs]⟩ :: Ks) (intR (some ⟨gi, 0, none⟩) ci [1, 0, 1, i3, i4] :: intR (some ⟨gs, 0, none⟩) cs [0, b, n] :: Os)) :
    Calls Tryd.prog 75 #[.pointer (some ⟨g, 0, none⟩), .slice (some ⟨gi, 0, none⟩) 5 ci, .int .i64 now] w fun e w' => ∃ g' g2, e = .returned (.slice (some ⟨g', 0, none⟩) 3 3) ∧ Mem w0 w' (⟨g, t, #[.slice (some ⟨g2, 0, none⟩) 3 3]⟩ :: Ks) (intR (some ⟨g', 0, none⟩) 3 [if i4 ≤ (0 : Int) then 1 else 0, if (0 : Int) ≤ 0 then 1 else 0, (0 : Int)] :: intR (some ⟨g2, 0, none⟩) 3 [1, 0, (0 : Int)] :: intR (some ⟨gi, 0, none⟩) ci [1, 0, 1, i3, i4] :: intR (some ⟨gs, 0, none⟩) cs [0, b, n] :: Os) := by
  have hne : gi ≠ g := h.dis _ (List.mem_cons_self ..) _ (List.mem_cons_self ..) _ rfl
  have hne2 : g ≠ gi := Ne.symm hne
  have TT : ∀ w : World, Calls Tryd.prog 73 #[.bool true] w fun e w' => e = .returned (.int .i64 1) ∧ w = w' := fun w => by simpa using truth_any true w
  have HT1 : Hid (∀ w : World, Calls Tryd.prog 73 #[.bool (decide (i4 ≤ (0 : Int)))] w fun e w' => e = .returned (.int .i64 (if i4 ≤ (0 : Int) then 1 else 0)) ∧ w = w') := fun w => by simpa using truth_any (decide (i4 ≤ (0 : Int))) w
  obtain ⟨q1, hq1⟩ : ∃ q : Int, (if i4 ≤ (0 : Int) then 1 else 0) = q := ⟨_, rfl⟩
  rw [hq1] at HT1
  have HT2 := Lib.hid TT
  obtain ⟨q2, hq2⟩ : ∃ q : Int, 1 = q := ⟨_, rfl⟩
  rw [hq2] at HT2
  have hz2 : (if (0 : Int) ≤ 0 then (1 : Int) else 0) = q2 := by rw [if_pos (Int.le_refl _)]; exact hq2
  rw [hq1, hz2]
  clear hq1 hq2 TT hz2
  have bx := h.cellK 0 rfl
  have row := h.rowO 0 rfl
  have rs := h.rowO 1 rfl
  have r0 : w.cell? ⟨gi, 0, none⟩ = some (.int .i64 1) := row.cellAt 0 (by simp)
  have r1 : w.cell? ⟨gi, 1, none⟩ = some (.int .i64 0) := row.cellAt 1 (by simp)
  have r2 : w.cell? ⟨gi, 2, none⟩ = some (.int .i64 1) := row.cellAt 2 (by simp)
  have r3 : w.cell? ⟨gi, 3, none⟩ = some (.int .i64 i3) := row.cellAt 3 (by simp)
  have r4 : w.cell? ⟨gi, 4, none⟩ = some (.int .i64 i4) := row.cellAt 4 (by simp)
  have s0 : w.cell? ⟨gs, 0, none⟩ = some (.int .i64 0) := rs.cellAt 0 (by simp)
  have s1 : w.cell? ⟨gs, 1, none⟩ = some (.int .i64 b) := rs.cellAt 1 (by simp)
  have s2 : w.cell? ⟨gs, 2, none⟩ = some (.int .i64 n) := rs.cellAt 2 (by simp)
  have MD := Lib.hid (fun q => h.drewN q)
  clear h row rs
  go_enter Tryd.func75, Tryd.ntmps75
  go_upto_region 1 with fail
  go_quiet (fail)
  have M2 := Lib.hid (MD.out nq)
  clear MD
  go_upto_region 11 with fail

  clear bx r0 r1 r2 r3 r4 s0 s1 s2
  generalize World.drewN w nq = w2 at M2 ⊢
  have row := M2.out.rowO 0 rfl
  have bx := M2.out.cellK 0 rfl
  have fx := M2.out.frozenK 0 rfl
  have hgl := (M2.out.ltK 0 rfl).2
  have r0 : w2.cell? ⟨gi, 0, none⟩ = some (.int .i64 1) := row.cellAt 0 (by simp)
  have r1 : w2.cell? ⟨gi, 1, none⟩ = some (.int .i64 0) := row.cellAt 1 (by simp)
  have hil := lt_of_cell r0
  have q0 : w2.drew.cell? ⟨gi, 0, none⟩ = some (.int .i64 1) := r0
  have qq : w2.drew.cell? ⟨gi, 1, none⟩ = some (.int .i64 0) := r1
  have hM := (((M2.out.set (i := 0) (.slice (some ⟨w2.heap.size, 0, none⟩) 3 3)).alloc 3 #[.int .i64 1, .int .i64 0, .int .i64 (0 : Int)]).drew.asRow (sz := 1) (n := 3) (xs := ints [1, 0, (0 : Int)]) rfl rfl (by decide))
  simp only [World.size_setCell] at hM
  have MS := Lib.hid hM
  clear hM row
  go_cut [] from 73 to 83 (fun wc => ∃ g2, Hid (Mem w0 wc (⟨g, t, #[.slice (some ⟨g2, 0, none⟩) 3 3]⟩ :: Ks) (intR (some ⟨g2, 0, none⟩) 3 [1, 0, (0 : Int)] :: intR (some ⟨gi, 0, none⟩) ci [1, 0, 1, i3, i4] :: intR (some ⟨gs, 0, none⟩) cs [0, b, n] :: Os)))
  case first =>
    go_region
    all_goals go_wp2
    all_goals go_meet
    all_goals exact ⟨_, MS⟩
  case rest =>
    obtain ⟨g2, M3⟩ := hcut
    clear MS bx fx r0 r1 q0 qq hgl hil
    obtain ⟨w3, hw3⟩ : ∃ w3 : World, w3 = wc := ⟨_, rfl⟩
    subst hw3
    have row := M3.out.rowO 1 rfl
    have r4 : w3.cell? ⟨gi, 4, none⟩ = some (.int .i64 i4) := row.cellAt 4 (by simp)
    have MF := Lib.hid ((M3.out.alloc 3 #[.int .i64 q1, .int .i64 q2, .int .i64 (0 : Int)]).asRow (sz := 1) (n := 3) (xs := ints [q1, q2, (0 : Int)]) rfl rfl (by decide))
    clear M3 row
    go_wp2_with fail
    refine (HT1.out _).mono ?_
    rintro e w4 ⟨rfl, rfl⟩
    dsimp only
    go_wp2_with fail
    refine (HT2.out _).mono ?_
    rintro e w5 ⟨rfl, rfl⟩
    dsimp only
    go_wp2
    go_ret
    exact ⟨_, _, rfl, MF.out⟩

set_option maxRecDepth 100000 in
set_option maxHeartbeats 12800000 in
theorem both_ACl {w0 w : World} {Ks : List Box} {Os : List Row} {g gs cs gi ci : Nat} {t : TypeId} {b n i4 now : Int} (h : Mem w0 w (⟨g, t, #[.slice (some ⟨gs, 0, none⟩) 3 cs]⟩ :: Ks) (intR (some ⟨gi, 0, none⟩) ci [1, 0, 0, 1, i4] :: intR (some ⟨gs, 0, none⟩) cs [0, b, n] :: Os)) :
    Calls Tryd.prog 75 #[.pointer (some ⟨g, 0, none⟩), .slice (some ⟨gi, 0, none⟩) 5 ci, .int .i64 now] w fun e w' => ∃ g' g2, e = .returned (.slice (some ⟨g', 0, none⟩) 3 3) ∧ Mem w0 w' (⟨g, t, #[.slice (some ⟨g2, 0, none⟩) 3 3]⟩ :: Ks) (intR (some ⟨g', 0, none⟩) 3 [if i4 ≤ i4 then 1 else 0, if i4 ≤ 0 then 1 else 0, i4] :: intR (some ⟨g2, 0, none⟩) 3 [1, 0, i4] :: intR (some ⟨gi, 0, none⟩) ci [1, 0, 0, 1, i4] :: intR (some ⟨gs, 0, none⟩) cs [0, b, n] :: Os) := by
  have hne : gi ≠ g := h.dis _ (List.mem_cons_self ..) _ (List.mem_cons_self ..) _ rfl
  have hne2 : g ≠ gi := Ne.symm hne
  have TT : ∀ w : World, Calls Tryd.prog 73 #[.bool true] w fun e w' => e = .returned (.int .i64 1) ∧ w = w' := fun w => by simpa using truth_any true w
  have HT1 := Lib.hid TT
  obtain ⟨q1, hq1⟩ : ∃ q : Int, 1 = q := ⟨_, rfl⟩
  rw [hq1] at HT1
  have hz1 : (if i4 ≤ i4 then (1 : Int) else 0) = q1 := by rw [if_pos (Int.le_refl _)]; exact hq1
  have HT2 : Hid (∀ w : World, Calls Tryd.prog 73 #[.bool (decide (i4 ≤ 0))] w fun e w' => e = .returned (.int .i64 (if i4 ≤ 0 then 1 else 0)) ∧ w = w') := fun w => by simpa using truth_any (decide (i4 ≤ 0)) w
  obtain ⟨q2, hq2⟩ : ∃ q : Int, (if i4 ≤ 0 then 1 else 0) = q := ⟨_, rfl⟩
  rw [hq2] at HT2
  rw [hz1, hq2]
  clear hq1 hq2 TT hz1 
  have bx := h.cellK 0 rfl
  have row := h.rowO 0 rfl
  have rs := h.rowO 1 rfl
  have r0 : w.cell? ⟨gi, 0, none⟩ = some (.int .i64 1) := row.cellAt 0 (by simp)
  have r1 : w.cell? ⟨gi, 1, none⟩ = some (.int .i64 0) := row.cellAt 1 (by simp)
  have r2 : w.cell? ⟨gi, 2, none⟩ = some (.int .i64 0) := row.cellAt 2 (by simp)
  have r3 : w.cell? ⟨gi, 3, none⟩ = some (.int .i64 1) := row.cellAt 3 (by simp)
  have r4 : w.cell? ⟨gi, 4, none⟩ = some (.int .i64 i4) := row.cellAt 4 (by simp)
  have s0 : w.cell? ⟨gs, 0, none⟩ = some (.int .i64 0) := rs.cellAt 0 (by simp)
  have s1 : w.cell? ⟨gs, 1, none⟩ = some (.int .i64 b) := rs.cellAt 1 (by simp)
  have s2 : w.cell? ⟨gs, 2, none⟩ = some (.int .i64 n) := rs.cellAt 2 (by simp)
  have MD := Lib.hid (fun q => h.drewN q)
  clear h row rs
  go_enter Tryd.func75, Tryd.ntmps75
  go_upto_region 1 with fail
  go_quiet (fail)
  have M2 := Lib.hid (MD.out nq)
  clear MD
  go_upto_region 11 with fail

  clear bx r0 r1 r2 r3 r4 s0 s1 s2
  generalize World.drewN w nq = w2 at M2 ⊢
  have row := M2.out.rowO 0 rfl
  have bx := M2.out.cellK 0 rfl
  have fx := M2.out.frozenK 0 rfl
  have hgl := (M2.out.ltK 0 rfl).2
  have r0 : w2.cell? ⟨gi, 0, none⟩ = some (.int .i64 1) := row.cellAt 0 (by simp)
  have r1 : w2.cell? ⟨gi, 1, none⟩ = some (.int .i64 0) := row.cellAt 1 (by simp)
  have hil := lt_of_cell r0
  have q0 : w2.drew.cell? ⟨gi, 0, none⟩ = some (.int .i64 1) := r0
  have qq : w2.drew.cell? ⟨gi, 1, none⟩ = some (.int .i64 0) := r1
  have hM := (((M2.out.set (i := 0) (.slice (some ⟨w2.heap.size, 0, none⟩) 3 3)).alloc 3 #[.int .i64 1, .int .i64 0, .int .i64 i4]).drew.asRow (sz := 1) (n := 3) (xs := ints [1, 0, i4]) rfl rfl (by decide))
  simp only [World.size_setCell] at hM
  have MS := Lib.hid hM
  clear hM row
  go_cut [] from 73 to 83 (fun wc => ∃ g2, Hid (Mem w0 wc (⟨g, t, #[.slice (some ⟨g2, 0, none⟩) 3 3]⟩ :: Ks) (intR (some ⟨g2, 0, none⟩) 3 [1, 0, i4] :: intR (some ⟨gi, 0, none⟩) ci [1, 0, 0, 1, i4] :: intR (some ⟨gs, 0, none⟩) cs [0, b, n] :: Os)))
  case first =>
    go_region
    all_goals go_wp2
    all_goals go_meet
    all_goals exact ⟨_, MS⟩
  case rest =>
    obtain ⟨g2, M3⟩ := hcut
    clear MS bx fx r0 r1 q0 qq hgl hil
    obtain ⟨w3, hw3⟩ : ∃ w3 : World, w3 = wc := ⟨_, rfl⟩
    subst hw3
    have row := M3.out.rowO 1 rfl
    have r4 : w3.cell? ⟨gi, 4, none⟩ = some (.int .i64 i4) := row.cellAt 4 (by simp)
    have MF := Lib.hid ((M3.out.alloc 3 #[.int .i64 q1, .int .i64 q2, .int .i64 i4]).asRow (sz := 1) (n := 3) (xs := ints [q1, q2, i4]) rfl rfl (by decide))
    clear M3 row
    go_wp2_with fail
    refine (HT1.out _).mono ?_
    rintro e w4 ⟨rfl, rfl⟩
    dsimp only
    go_wp2_with fail
    refine (HT2.out _).mono ?_
    rintro e w5 ⟨rfl, rfl⟩
    dsimp only
    go_wp2
    go_ret
    exact ⟨_, _, rfl, MF.out⟩

set_option maxRecDepth 100000 in
set_option maxHeartbeats 12800000 in
theorem both_ACc {w0 w : World} {Ks : List Box} {Os : List Row} {g gs cs gi ci : Nat} {t : TypeId} {b n i4 now : Int} (h : Mem w0 w (⟨g, t, #[.slice (some ⟨gs, 0, none⟩) 3 cs]⟩ :: Ks) (intR (some ⟨gi, 0, none⟩) ci [1, 0, 0, 0, i4] :: intR (some ⟨gs, 0, none⟩) cs [0, b, n] :: Os)) (hn : -32768 ≤ n) (hn' : n ≤ 32767) :
    Calls Tryd.prog 75 #[.pointer (some ⟨g, 0, none⟩), .slice (some ⟨gi, 0, none⟩) 5 ci, .int .i64 now] w fun e w' => ∃ g' g2, e = .returned (.slice (some ⟨g', 0, none⟩) 3 3) ∧ Mem w0 w' (⟨g, t, #[.slice (some ⟨g2, 0, none⟩) 3 3]⟩ :: Ks) (intR (some ⟨g', 0, none⟩) 3 [if i4 ≤ (min (n + 1) 32767) then 1 else 0, if (min (n + 1) 32767) ≤ 0 then 1 else 0, (min (n + 1) 32767)] :: intR (some ⟨g2, 0, none⟩) 3 [1, 0, (min (n + 1) 32767)] :: intR (some ⟨gi, 0, none⟩) ci [1, 0, 0, 0, i4] :: intR (some ⟨gs, 0, none⟩) cs [0, b, n] :: Os) := by
  have hne : gi ≠ g := h.dis _ (List.mem_cons_self ..) _ (List.mem_cons_self ..) _ rfl
  have hne2 : g ≠ gi := Ne.symm hne
  obtain ⟨N, hN⟩ : ∃ N : Int, (min (n + 1) 32767) = N := ⟨_, rfl⟩
  rw [hN]
  have TT : ∀ w : World, Calls Tryd.prog 73 #[.bool true] w fun e w' => e = .returned (.int .i64 1) ∧ w = w' := fun w => by simpa using truth_any true w
  have HT1 : Hid (∀ w : World, Calls Tryd.prog 73 #[.bool (decide (i4 ≤ N))] w fun e w' => e = .returned (.int .i64 (if i4 ≤ N then 1 else 0)) ∧ w = w') := fun w => by simpa using truth_any (decide (i4 ≤ N)) w
  obtain ⟨q1, hq1⟩ : ∃ q : Int, (if i4 ≤ N then 1 else 0) = q := ⟨_, rfl⟩
  rw [hq1] at HT1
  have HT2 : Hid (∀ w : World, Calls Tryd.prog 73 #[.bool (decide (N ≤ 0))] w fun e w' => e = .returned (.int .i64 (if N ≤ 0 then 1 else 0)) ∧ w = w') := fun w => by simpa using truth_any (decide (N ≤ 0)) w
  obtain ⟨q2, hq2⟩ : ∃ q : Int, (if N ≤ 0 then 1 else 0) = q := ⟨_, rfl⟩
  rw [hq2] at HT2
  rw [hq1, hq2]
  clear hq1 hq2 TT 
  have bx := h.cellK 0 rfl
  have row := h.rowO 0 rfl
  have rs := h.rowO 1 rfl
  have r0 : w.cell? ⟨gi, 0, none⟩ = some (.int .i64 1) := row.cellAt 0 (by simp)
  have r1 : w.cell? ⟨gi, 1, none⟩ = some (.int .i64 0) := row.cellAt 1 (by simp)
  have r2 : w.cell? ⟨gi, 2, none⟩ = some (.int .i64 0) := row.cellAt 2 (by simp)
  have r3 : w.cell? ⟨gi, 3, none⟩ = some (.int .i64 0) := row.cellAt 3 (by simp)
  have r4 : w.cell? ⟨gi, 4, none⟩ = some (.int .i64 i4) := row.cellAt 4 (by simp)
  have s0 : w.cell? ⟨gs, 0, none⟩ = some (.int .i64 0) := rs.cellAt 0 (by simp)
  have s1 : w.cell? ⟨gs, 1, none⟩ = some (.int .i64 b) := rs.cellAt 1 (by simp)
  have s2 : w.cell? ⟨gs, 2, none⟩ = some (.int .i64 n) := rs.cellAt 2 (by simp)
  have hw1 : IntKind.i64.wrap (n + 1) = n + 1 := by simp [IntKind.wrap, IntKind.bits, IntKind.signed]; omega
  have MD := Lib.hid (fun q => h.drewN q)
  clear h row rs
  go_enter Tryd.func75, Tryd.ntmps75
  go_upto_region 1 with fail
  go_quiet (fail)
  have M2 := Lib.hid (MD.out nq)
  clear MD
  go_upto_region 11 with fail
  clear hN
  clear bx r0 r1 r2 r3 r4 s0 s1 s2
  generalize World.drewN w nq = w2 at M2 ⊢
  have row := M2.out.rowO 0 rfl
  have bx := M2.out.cellK 0 rfl
  have fx := M2.out.frozenK 0 rfl
  have hgl := (M2.out.ltK 0 rfl).2
  have r0 : w2.cell? ⟨gi, 0, none⟩ = some (.int .i64 1) := row.cellAt 0 (by simp)
  have r1 : w2.cell? ⟨gi, 1, none⟩ = some (.int .i64 0) := row.cellAt 1 (by simp)
  have hil := lt_of_cell r0
  have q0 : w2.drew.cell? ⟨gi, 0, none⟩ = some (.int .i64 1) := r0
  have qq : w2.drew.cell? ⟨gi, 1, none⟩ = some (.int .i64 0) := r1
  have hM := (((M2.out.set (i := 0) (.slice (some ⟨w2.heap.size, 0, none⟩) 3 3)).alloc 3 #[.int .i64 1, .int .i64 0, .int .i64 N]).drew.asRow (sz := 1) (n := 3) (xs := ints [1, 0, N]) rfl rfl (by decide))
  simp only [World.size_setCell] at hM
  have MS := Lib.hid hM
  clear hM row
  go_cut [] from 73 to 83 (fun wc => ∃ g2, Hid (Mem w0 wc (⟨g, t, #[.slice (some ⟨g2, 0, none⟩) 3 3]⟩ :: Ks) (intR (some ⟨g2, 0, none⟩) 3 [1, 0, N] :: intR (some ⟨gi, 0, none⟩) ci [1, 0, 0, 0, i4] :: intR (some ⟨gs, 0, none⟩) cs [0, b, n] :: Os)))
  case first =>
    go_region
    all_goals go_wp2
    all_goals go_meet
    all_goals exact ⟨_, MS⟩
  case rest =>
    obtain ⟨g2, M3⟩ := hcut
    clear MS bx fx r0 r1 q0 qq hgl hil
    obtain ⟨w3, hw3⟩ : ∃ w3 : World, w3 = wc := ⟨_, rfl⟩
    subst hw3
    have row := M3.out.rowO 1 rfl
    have r4 : w3.cell? ⟨gi, 4, none⟩ = some (.int .i64 i4) := row.cellAt 4 (by simp)
    have MF := Lib.hid ((M3.out.alloc 3 #[.int .i64 q1, .int .i64 q2, .int .i64 N]).asRow (sz := 1) (n := 3) (xs := ints [q1, q2, N]) rfl rfl (by decide))
    clear M3 row
    go_wp2_with fail
    refine (HT1.out _).mono ?_
    rintro e w4 ⟨rfl, rfl⟩
    dsimp only
    go_wp2_with fail
    refine (HT2.out _).mono ?_
    rintro e w5 ⟨rfl, rfl⟩
    dsimp only
    go_wp2
    go_ret
    exact ⟨_, _, rfl, MF.out⟩

set_option maxRecDepth 100000 in
set_option maxHeartbeats 12800000 in
theorem both_BAr {w0 w : World} {Ks : List Box} {Os : List Row} {g gs cs gi ci : Nat} {t : TypeId} {a i3 n i4 now : Int} (h : Mem w0 w (⟨g, t, #[.slice (some ⟨gs, 0, none⟩) 3 cs]⟩ :: Ks) (intR (some ⟨gi, 0, none⟩) ci [1, 1, 1, i3, i4] :: intR (some ⟨gs, 0, none⟩) cs [a, 0, n] :: Os)) (ha : ¬ a = 0) :
    Calls Tryd.prog 75 #[.pointer (some ⟨g, 0, none⟩), .slice (some ⟨gi, 0, none⟩) 5 ci, .int .i64 now] w fun e w' => ∃ g' g2, e = .returned (.slice (some ⟨g', 0, none⟩) 3 3) ∧ Mem w0 w' (⟨g, t, #[.slice (some ⟨g2, 0, none⟩) 3 3]⟩ :: Ks) (intR (some ⟨g', 0, none⟩) 3 [if i4 ≤ (0 : Int) then 1 else 0, if (0 : Int) ≤ 0 then 1 else 0, (0 : Int)] :: intR (some ⟨g2, 0, none⟩) 3 [1, 1, (0 : Int)] :: intR (some ⟨gi, 0, none⟩) ci [1, 1, 1, i3, i4] :: intR (some ⟨gs, 0, none⟩) cs [a, 0, n] :: Os) := by
  have hne : gi ≠ g := h.dis _ (List.mem_cons_self ..) _ (List.mem_cons_self ..) _ rfl
  have hne2 : g ≠ gi := Ne.symm hne
  have TT : ∀ w : World, Calls Tryd.prog 73 #[.bool true] w fun e w' => e = .returned (.int .i64 1) ∧ w = w' := fun w => by simpa using truth_any true w
  have HT1 : Hid (∀ w : World, Calls Tryd.prog 73 #[.bool (decide (i4 ≤ (0 : Int)))] w fun e w' => e = .returned (.int .i64 (if i4 ≤ (0 : Int) then 1 else 0)) ∧ w = w') := fun w => by simpa using truth_any (decide (i4 ≤ (0 : Int))) w
  obtain ⟨q1, hq1⟩ : ∃ q : Int, (if i4 ≤ (0 : Int) then 1 else 0) = q := ⟨_, rfl⟩
  rw [hq1] at HT1
  have HT2 := Lib.hid TT
  obtain ⟨q2, hq2⟩ : ∃ q : Int, 1 = q := ⟨_, rfl⟩
  rw [hq2] at HT2
  have hz2 : (if (0 : Int) ≤ 0 then (1 : Int) else 0) = q2 := by rw [if_pos (Int.le_refl _)]; exact hq2
  rw [hq1, hz2]
  clear hq1 hq2 TT hz2
  have bx := h.cellK 0 rfl
  have row := h.rowO 0 rfl
  have rs := h.rowO 1 rfl
  have r0 : w.cell? ⟨gi, 0, none⟩ = some (.int .i64 1) := row.cellAt 0 (by simp)
  have r1 : w.cell? ⟨gi, 1, none⟩ = some (.int .i64 1) := row.cellAt 1 (by simp)
  have r2 : w.cell? ⟨gi, 2, none⟩ = some (.int .i64 1) := row.cellAt 2 (by simp)
  have r3 : w.cell? ⟨gi, 3, none⟩ = some (.int .i64 i3) := row.cellAt 3 (by simp)
  have r4 : w.cell? ⟨gi, 4, none⟩ = some (.int .i64 i4) := row.cellAt 4 (by simp)
  have s0 : w.cell? ⟨gs, 0, none⟩ = some (.int .i64 a) := rs.cellAt 0 (by simp)
  have s1 : w.cell? ⟨gs, 1, none⟩ = some (.int .i64 0) := rs.cellAt 1 (by simp)
  have s2 : w.cell? ⟨gs, 2, none⟩ = some (.int .i64 n) := rs.cellAt 2 (by simp)
  have ha1 : (a == 0) = false := by simpa using ha
  have MD := Lib.hid (fun q => h.drewN q)
  clear h row rs
  go_enter Tryd.func75, Tryd.ntmps75
  go_upto_region 1 with fail
  go_quiet (fail)
  have M2 := Lib.hid (MD.out nq)
  clear MD
  go_upto_region 11 with fail

  clear bx r0 r1 r2 r3 r4 s0 s1 s2
  generalize World.drewN w nq = w2 at M2 ⊢
  have row := M2.out.rowO 0 rfl
  have bx := M2.out.cellK 0 rfl
  have fx := M2.out.frozenK 0 rfl
  have hgl := (M2.out.ltK 0 rfl).2
  have r0 : w2.cell? ⟨gi, 0, none⟩ = some (.int .i64 1) := row.cellAt 0 (by simp)
  have r1 : w2.cell? ⟨gi, 1, none⟩ = some (.int .i64 1) := row.cellAt 1 (by simp)
  have hil := lt_of_cell r0
  have q0 : w2.drew.cell? ⟨gi, 0, none⟩ = some (.int .i64 1) := r0
  have qq : w2.drew.cell? ⟨gi, 1, none⟩ = some (.int .i64 1) := r1
  have hM := (((M2.out.set (i := 0) (.slice (some ⟨w2.heap.size, 0, none⟩) 3 3)).alloc 3 #[.int .i64 1, .int .i64 1, .int .i64 (0 : Int)]).drew.asRow (sz := 1) (n := 3) (xs := ints [1, 1, (0 : Int)]) rfl rfl (by decide))
  simp only [World.size_setCell] at hM
  have MS := Lib.hid hM
  clear hM row
  go_cut [] from 73 to 83 (fun wc => ∃ g2, Hid (Mem w0 wc (⟨g, t, #[.slice (some ⟨g2, 0, none⟩) 3 3]⟩ :: Ks) (intR (some ⟨g2, 0, none⟩) 3 [1, 1, (0 : Int)] :: intR (some ⟨gi, 0, none⟩) ci [1, 1, 1, i3, i4] :: intR (some ⟨gs, 0, none⟩) cs [a, 0, n] :: Os)))
  case first =>
    go_region
    all_goals go_wp2
    all_goals go_meet
    all_goals exact ⟨_, MS⟩
  case rest =>
    obtain ⟨g2, M3⟩ := hcut
    clear MS bx fx r0 r1 q0 qq hgl hil
    obtain ⟨w3, hw3⟩ : ∃ w3 : World, w3 = wc := ⟨_, rfl⟩
    subst hw3
    have row := M3.out.rowO 1 rfl
    have r4 : w3.cell? ⟨gi, 4, none⟩ = some (.int .i64 i4) := row.cellAt 4 (by simp)
    have MF := Lib.hid ((M3.out.alloc 3 #[.int .i64 q1, .int .i64 q2, .int .i64 (0 : Int)]).asRow (sz := 1) (n := 3) (xs := ints [q1, q2, (0 : Int)]) rfl rfl (by decide))
    clear M3 row
    go_wp2_with fail
    refine (HT1.out _).mono ?_
    rintro e w4 ⟨rfl, rfl⟩
    dsimp only
    go_wp2_with fail
    refine (HT2.out _).mono ?_
    rintro e w5 ⟨rfl, rfl⟩
    dsimp only
    go_wp2
    go_ret
    exact ⟨_, _, rfl, MF.out⟩

set_option maxRecDepth 100000 in
set_option maxHeartbeats 12800000 in
theorem both_BAl {w0 w : World} {Ks : List Box} {Os : List Row} {g gs cs gi ci : Nat} {t : TypeId} {a n i4 now : Int} (h : Mem w0 w (⟨g, t, #[.slice (some ⟨gs, 0, none⟩) 3 cs]⟩ :: Ks) (intR (some ⟨gi, 0, none⟩) ci [1, 1, 0, 1, i4] :: intR (some ⟨gs, 0, none⟩) cs [a, 0, n] :: Os)) (ha : ¬ a = 0) :
    Calls Tryd.prog 75 #[.pointer (some ⟨g, 0, none⟩), .slice (some ⟨gi, 0, none⟩) 5 ci, .int .i64 now] w fun e w' => ∃ g' g2, e = .returned (.slice (some ⟨g', 0, none⟩) 3 3) ∧ Mem w0 w' (⟨g, t, #[.slice (some ⟨g2, 0, none⟩) 3 3]⟩ :: Ks) (intR (some ⟨g', 0, none⟩) 3 [if i4 ≤ i4 then 1 else 0, if i4 ≤ 0 then 1 else 0, i4] :: intR (some ⟨g2, 0, none⟩) 3 [1, 1, i4] :: intR (some ⟨gi, 0, none⟩) ci [1, 1, 0, 1, i4] :: intR (some ⟨gs, 0, none⟩) cs [a, 0, n] :: Os) := by
  have hne : gi ≠ g := h.dis _ (List.mem_cons_self ..) _ (List.mem_cons_self ..) _ rfl
  have hne2 : g ≠ gi := Ne.symm hne
  have TT : ∀ w : World, Calls Tryd.prog 73 #[.bool true] w fun e w' => e = .returned (.int .i64 1) ∧ w = w' := fun w => by simpa using truth_any true w
  have HT1 := Lib.hid TT
  obtain ⟨q1, hq1⟩ : ∃ q : Int, 1 = q := ⟨_, rfl⟩
  rw [hq1] at HT1
  have hz1 : (if i4 ≤ i4 then (1 : Int) else 0) = q1 := by rw [if_pos (Int.le_refl _)]; exact hq1
  have HT2 : Hid (∀ w : World, Calls Tryd.prog 73 #[.bool (decide (i4 ≤ 0))] w fun e w' => e = .returned (.int .i64 (if i4 ≤ 0 then 1 else 0)) ∧ w = w') := fun w => by simpa using truth_any (decide (i4 ≤ 0)) w
  obtain ⟨q2, hq2⟩ : ∃ q : Int, (if i4 ≤ 0 then 1 else 0) = q := ⟨_, rfl⟩
  rw [hq2] at HT2
  rw [hz1, hq2]
  clear hq1 hq2 TT hz1 
  have bx := h.cellK 0 rfl
  have row := h.rowO 0 rfl
  have rs := h.rowO 1 rfl
  have r0 : w.cell? ⟨gi, 0, none⟩ = some (.int .i64 1) := row.cellAt 0 (by simp)
  have r1 : w.cell? ⟨gi, 1, none⟩ = some (.int .i64 1) := row.cellAt 1 (by simp)
  have r2 : w.cell? ⟨gi, 2, none⟩ = some (.int .i64 0) := row.cellAt 2 (by simp)
  have r3 : w.cell? ⟨gi, 3, none⟩ = some (.int .i64 1) := row.cellAt 3 (by simp)
  have r4 : w.cell? ⟨gi, 4, none⟩ = some (.int .i64 i4) := row.cellAt 4 (by simp)
  have s0 : w.cell? ⟨gs, 0, none⟩ = some (.int .i64 a) := rs.cellAt 0 (by simp)
  have s1 : w.cell? ⟨gs, 1, none⟩ = some (.int .i64 0) := rs.cellAt 1 (by simp)
  have s2 : w.cell? ⟨gs, 2, none⟩ = some (.int .i64 n) := rs.cellAt 2 (by simp)
  have ha1 : (a == 0) = false := by simpa using ha
  have MD := Lib.hid (fun q => h.drewN q)
  clear h row rs
  go_enter Tryd.func75, Tryd.ntmps75
  go_upto_region 1 with fail
  go_quiet (fail)
  have M2 := Lib.hid (MD.out nq)
  clear MD
  go_upto_region 11 with fail

  clear bx r0 r1 r2 r3 r4 s0 s1 s2
  generalize World.drewN w nq = w2 at M2 ⊢
  have row := M2.out.rowO 0 rfl
  have bx := M2.out.cellK 0 rfl
  have fx := M2.out.frozenK 0 rfl
  have hgl := (M2.out.ltK 0 rfl).2
  have r0 : w2.cell? ⟨gi, 0, none⟩ = some (.int .i64 1) := row.cellAt 0 (by simp)
  have r1 : w2.cell? ⟨gi, 1, none⟩ = some (.int .i64 1) := row.cellAt 1 (by simp)
  have hil := lt_of_cell r0
  have q0 : w2.drew.cell? ⟨gi, 0, none⟩ = some (.int .i64 1) := r0
  have qq : w2.drew.cell? ⟨gi, 1, none⟩ = some (.int .i64 1) := r1
  have hM := (((M2.out.set (i := 0) (.slice (some ⟨w2.heap.size, 0, none⟩) 3 3)).alloc 3 #[.int .i64 1, .int .i64 1, .int .i64 i4]).drew.asRow (sz := 1) (n := 3) (xs := ints [1, 1, i4]) rfl rfl (by decide))
  simp only [World.size_setCell] at hM
  have MS := Lib.hid hM
  clear hM row
  go_cut [] from 73 to 83 (fun wc => ∃ g2, Hid (Mem w0 wc (⟨g, t, #[.slice (some ⟨g2, 0, none⟩) 3 3]⟩ :: Ks) (intR (some ⟨g2, 0, none⟩) 3 [1, 1, i4] :: intR (some ⟨gi, 0, none⟩) ci [1, 1, 0, 1, i4] :: intR (some ⟨gs, 0, none⟩) cs [a, 0, n] :: Os)))
  case first =>
    go_region
    all_goals go_wp2
    all_goals go_meet
    all_goals exact ⟨_, MS⟩
  case rest =>
    obtain ⟨g2, M3⟩ := hcut
    clear MS bx fx r0 r1 q0 qq hgl hil
    obtain ⟨w3, hw3⟩ : ∃ w3 : World, w3 = wc := ⟨_, rfl⟩
    subst hw3
    have row := M3.out.rowO 1 rfl
    have r4 : w3.cell? ⟨gi, 4, none⟩ = some (.int .i64 i4) := row.cellAt 4 (by simp)
    have MF := Lib.hid ((M3.out.alloc 3 #[.int .i64 q1, .int .i64 q2, .int .i64 i4]).asRow (sz := 1) (n := 3) (xs := ints [q1, q2, i4]) rfl rfl (by decide))
    clear M3 row
    go_wp2_with fail
    refine (HT1.out _).mono ?_
    rintro e w4 ⟨rfl, rfl⟩
    dsimp only
    go_wp2_with fail
    refine (HT2.out _).mono ?_
    rintro e w5 ⟨rfl, rfl⟩
    dsimp only
    go_wp2
    go_ret
    exact ⟨_, _, rfl, MF.out⟩

set_option maxRecDepth 100000 in
set_option maxHeartbeats 12800000 in
theorem both_BAc {w0 w : World} {Ks : List Box} {Os : List Row} {g gs cs gi ci : Nat} {t : TypeId} {a n i4 now : Int} (h : Mem w0 w (⟨g, t, #[.slice (some ⟨gs, 0, none⟩) 3 cs]⟩ :: Ks) (intR (some ⟨gi, 0, none⟩) ci [1, 1, 0, 0, i4] :: intR (some ⟨gs, 0, none⟩) cs [a, 0, n] :: Os)) (ha : ¬ a = 0) (hn : -32768 ≤ n) (hn' : n ≤ 32767) :
    Calls Tryd.prog 75 #[.pointer (some ⟨g, 0, none⟩), .slice (some ⟨gi, 0, none⟩) 5 ci, .int .i64 now] w fun e w' => ∃ g' g2, e = .returned (.slice (some ⟨g', 0, none⟩) 3 3) ∧ Mem w0 w' (⟨g, t, #[.slice (some ⟨g2, 0, none⟩) 3 3]⟩ :: Ks) (intR (some ⟨g', 0, none⟩) 3 [if i4 ≤ (max (n - 1) (-32768)) then 1 else 0, if (max (n - 1) (-32768)) ≤ 0 then 1 else 0, (max (n - 1) (-32768))] :: intR (some ⟨g2, 0, none⟩) 3 [1, 1, (max (n - 1) (-32768))] :: intR (some ⟨gi, 0, none⟩) ci [1, 1, 0, 0, i4] :: intR (some ⟨gs, 0, none⟩) cs [a, 0, n] :: Os) := by
  have hne : gi ≠ g := h.dis _ (List.mem_cons_self ..) _ (List.mem_cons_self ..) _ rfl
  have hne2 : g ≠ gi := Ne.symm hne
  obtain ⟨N, hN⟩ : ∃ N : Int, (max (n - 1) (-32768)) = N := ⟨_, rfl⟩
  rw [hN]
  have TT : ∀ w : World, Calls Tryd.prog 73 #[.bool true] w fun e w' => e = .returned (.int .i64 1) ∧ w = w' := fun w => by simpa using truth_any true w
  have HT1 : Hid (∀ w : World, Calls Tryd.prog 73 #[.bool (decide (i4 ≤ N))] w fun e w' => e = .returned (.int .i64 (if i4 ≤ N then 1 else 0)) ∧ w = w') := fun w => by simpa using truth_any (decide (i4 ≤ N)) w
  obtain ⟨q1, hq1⟩ : ∃ q : Int, (if i4 ≤ N then 1 else 0) = q := ⟨_, rfl⟩
  rw [hq1] at HT1
  have HT2 : Hid (∀ w : World, Calls Tryd.prog 73 #[.bool (decide (N ≤ 0))] w fun e w' => e = .returned (.int .i64 (if N ≤ 0 then 1 else 0)) ∧ w = w') := fun w => by simpa using truth_any (decide (N ≤ 0)) w
  obtain ⟨q2, hq2⟩ : ∃ q : Int, (if N ≤ 0 then 1 else 0) = q := ⟨_, rfl⟩
  rw [hq2] at HT2
  rw [hq1, hq2]
  clear hq1 hq2 TT 
  have bx := h.cellK 0 rfl
  have row := h.rowO 0 rfl
  have rs := h.rowO 1 rfl
  have r0 : w.cell? ⟨gi, 0, none⟩ = some (.int .i64 1) := row.cellAt 0 (by simp)
  have r1 : w.cell? ⟨gi, 1, none⟩ = some (.int .i64 1) := row.cellAt 1 (by simp)
  have r2 : w.cell? ⟨gi, 2, none⟩ = some (.int .i64 0) := row.cellAt 2 (by simp)
  have r3 : w.cell? ⟨gi, 3, none⟩ = some (.int .i64 0) := row.cellAt 3 (by simp)
  have r4 : w.cell? ⟨gi, 4, none⟩ = some (.int .i64 i4) := row.cellAt 4 (by simp)
  have s0 : w.cell? ⟨gs, 0, none⟩ = some (.int .i64 a) := rs.cellAt 0 (by simp)
  have s1 : w.cell? ⟨gs, 1, none⟩ = some (.int .i64 0) := rs.cellAt 1 (by simp)
  have s2 : w.cell? ⟨gs, 2, none⟩ = some (.int .i64 n) := rs.cellAt 2 (by simp)
  have ha1 : (a == 0) = false := by simpa using ha
  have hw1 : IntKind.i64.wrap (n - 1) = n - 1 := by simp [IntKind.wrap, IntKind.bits, IntKind.signed]; omega
  have MD := Lib.hid (fun q => h.drewN q)
  clear h row rs
  go_enter Tryd.func75, Tryd.ntmps75
  go_upto_region 1 with fail
  go_quiet (fail)
  have M2 := Lib.hid (MD.out nq)
  clear MD
  go_upto_region 11 with fail
  clear hN
  clear bx r0 r1 r2 r3 r4 s0 s1 s2
  generalize World.drewN w nq = w2 at M2 ⊢
  have row := M2.out.rowO 0 rfl
  have bx := M2.out.cellK 0 rfl
  have fx := M2.out.frozenK 0 rfl
  have hgl := (M2.out.ltK 0 rfl).2
  have r0 : w2.cell? ⟨gi, 0, none⟩ = some (.int .i64 1) := row.cellAt 0 (by simp)
  have r1 : w2.cell? ⟨gi, 1, none⟩ = some (.int .i64 1) := row.cellAt 1 (by simp)
  have hil := lt_of_cell r0
  have q0 : w2.drew.cell? ⟨gi, 0, none⟩ = some (.int .i64 1) := r0
  have qq : w2.drew.cell? ⟨gi, 1, none⟩ = some (.int .i64 1) := r1
  have hM := (((M2.out.set (i := 0) (.slice (some ⟨w2.heap.size, 0, none⟩) 3 3)).alloc 3 #[.int .i64 1, .int .i64 1, .int .i64 N]).drew.asRow (sz := 1) (n := 3) (xs := ints [1, 1, N]) rfl rfl (by decide))
  simp only [World.size_setCell] at hM
  have MS := Lib.hid hM
  clear hM row
  go_cut [] from 73 to 83 (fun wc => ∃ g2, Hid (Mem w0 wc (⟨g, t, #[.slice (some ⟨g2, 0, none⟩) 3 3]⟩ :: Ks) (intR (some ⟨g2, 0, none⟩) 3 [1, 1, N] :: intR (some ⟨gi, 0, none⟩) ci [1, 1, 0, 0, i4] :: intR (some ⟨gs, 0, none⟩) cs [a, 0, n] :: Os)))
  case first =>
    go_region
    all_goals go_wp2
    all_goals go_meet
    all_goals exact ⟨_, MS⟩
  case rest =>
    obtain ⟨g2, M3⟩ := hcut
    clear MS bx fx r0 r1 q0 qq hgl hil
    obtain ⟨w3, hw3⟩ : ∃ w3 : World, w3 = wc := ⟨_, rfl⟩
    subst hw3
    have row := M3.out.rowO 1 rfl
    have r4 : w3.cell? ⟨gi, 4, none⟩ = some (.int .i64 i4) := row.cellAt 4 (by simp)
    have MF := Lib.hid ((M3.out.alloc 3 #[.int .i64 q1, .int .i64 q2, .int .i64 N]).asRow (sz := 1) (n := 3) (xs := ints [q1, q2, N]) rfl rfl (by decide))
    clear M3 row
    go_wp2_with fail
    refine (HT1.out _).mono ?_
    rintro e w4 ⟨rfl, rfl⟩
    dsimp only
    go_wp2_with fail
    refine (HT2.out _).mono ?_
    rintro e w5 ⟨rfl, rfl⟩
    dsimp only
    go_wp2
    go_ret
    exact ⟨_, _, rfl, MF.out⟩

set_option maxRecDepth 100000 in
set_option maxHeartbeats 12800000 in
theorem both_BBr {w0 w : World} {Ks : List Box} {Os : List Row} {g gs cs gi ci : Nat} {t : TypeId} {a b i3 n i4 now : Int} (h : Mem w0 w (⟨g, t, #[.slice (some ⟨gs, 0, none⟩) 3 cs]⟩ :: Ks) (intR (some ⟨gi, 0, none⟩) ci [1, 1, 1, i3, i4] :: intR (some ⟨gs, 0, none⟩) cs [a, b, n] :: Os)) (ha : ¬ a = 0) (hb : ¬ b = 0) :
    Calls Tryd.prog 75 #[.pointer (some ⟨g, 0, none⟩), .slice (some ⟨gi, 0, none⟩) 5 ci, .int .i64 now] w fun e w' => ∃ g' g2, e = .returned (.slice (some ⟨g', 0, none⟩) 3 3) ∧ Mem w0 w' (⟨g, t, #[.slice (some ⟨g2, 0, none⟩) 3 3]⟩ :: Ks) (intR (some ⟨g', 0, none⟩) 3 [if i4 ≤ (0 : Int) then 1 else 0, if (0 : Int) ≤ 0 then 1 else 0, (0 : Int)] :: intR (some ⟨g2, 0, none⟩) 3 [1, 1, (0 : Int)] :: intR (some ⟨gi, 0, none⟩) ci [1, 1, 1, i3, i4] :: intR (some ⟨gs, 0, none⟩) cs [a, b, n] :: Os) := by
  have hne : gi ≠ g := h.dis _ (List.mem_cons_self ..) _ (List.mem_cons_self ..) _ rfl
  have hne2 : g ≠ gi := Ne.symm hne
  have TT : ∀ w : World, Calls Tryd.prog 73 #[.bool true] w fun e w' => e = .returned (.int .i64 1) ∧ w = w' := fun w => by simpa using truth_any true w
  have HT1 : Hid (∀ w : World, Calls Tryd.prog 73 #[.bool (decide (i4 ≤ (0 : Int)))] w fun e w' => e = .returned (.int .i64 (if i4 ≤ (0 : Int) then 1 else 0)) ∧ w = w') := fun w => by simpa using truth_any (decide (i4 ≤ (0 : Int))) w
  obtain ⟨q1, hq1⟩ : ∃ q : Int, (if i4 ≤ (0 : Int) then 1 else 0) = q := ⟨_, rfl⟩
  rw [hq1] at HT1
  have HT2 := Lib.hid TT
  obtain ⟨q2, hq2⟩ : ∃ q : Int, 1 = q := ⟨_, rfl⟩
  rw [hq2] at HT2
  have hz2 : (if (0 : Int) ≤ 0 then (1 : Int) else 0) = q2 := by rw [if_pos (Int.le_refl _)]; exact hq2
  rw [hq1, hz2]
  clear hq1 hq2 TT hz2
  have bx := h.cellK 0 rfl
  have row := h.rowO 0 rfl
  have rs := h.rowO 1 rfl
  have r0 : w.cell? ⟨gi, 0, none⟩ = some (.int .i64 1) := row.cellAt 0 (by simp)
  have r1 : w.cell? ⟨gi, 1, none⟩ = some (.int .i64 1) := row.cellAt 1 (by simp)
  have r2 : w.cell? ⟨gi, 2, none⟩ = some (.int .i64 1) := row.cellAt 2 (by simp)
  have r3 : w.cell? ⟨gi, 3, none⟩ = some (.int .i64 i3) := row.cellAt 3 (by simp)
  have r4 : w.cell? ⟨gi, 4, none⟩ = some (.int .i64 i4) := row.cellAt 4 (by simp)
  have s0 : w.cell? ⟨gs, 0, none⟩ = some (.int .i64 a) := rs.cellAt 0 (by simp)
  have s1 : w.cell? ⟨gs, 1, none⟩ = some (.int .i64 b) := rs.cellAt 1 (by simp)
  have s2 : w.cell? ⟨gs, 2, none⟩ = some (.int .i64 n) := rs.cellAt 2 (by simp)
  have ha1 : (a == 0) = false := by simpa using ha
  have hb1 : (b == 0) = false := by simpa using hb
  have MD := Lib.hid (fun q => h.drewN q)
  clear h row rs
  go_enter Tryd.func75, Tryd.ntmps75
  go_upto_region 1 with fail
  go_quiet (fail)
  have M2 := Lib.hid (MD.out nq)
  clear MD
  go_upto_region 11 with fail

  clear bx r0 r1 r2 r3 r4 s0 s1 s2
  generalize World.drewN w nq = w2 at M2 ⊢
  have row := M2.out.rowO 0 rfl
  have bx := M2.out.cellK 0 rfl
  have fx := M2.out.frozenK 0 rfl
  have hgl := (M2.out.ltK 0 rfl).2
  have r0 : w2.cell? ⟨gi, 0, none⟩ = some (.int .i64 1) := row.cellAt 0 (by simp)
  have r1 : w2.cell? ⟨gi, 1, none⟩ = some (.int .i64 1) := row.cellAt 1 (by simp)
  have hil := lt_of_cell r0
  have q0 : w2.drew.cell? ⟨gi, 0, none⟩ = some (.int .i64 1) := r0
  have qq : w2.drew.cell? ⟨gi, 1, none⟩ = some (.int .i64 1) := r1
  have hM := (((M2.out.set (i := 0) (.slice (some ⟨w2.heap.size, 0, none⟩) 3 3)).alloc 3 #[.int .i64 1, .int .i64 1, .int .i64 (0 : Int)]).drew.asRow (sz := 1) (n := 3) (xs := ints [1, 1, (0 : Int)]) rfl rfl (by decide))
  simp only [World.size_setCell] at hM
  have MS := Lib.hid hM
  clear hM row
  go_cut [] from 73 to 83 (fun wc => ∃ g2, Hid (Mem w0 wc (⟨g, t, #[.slice (some ⟨g2, 0, none⟩) 3 3]⟩ :: Ks) (intR (some ⟨g2, 0, none⟩) 3 [1, 1, (0 : Int)] :: intR (some ⟨gi, 0, none⟩) ci [1, 1, 1, i3, i4] :: intR (some ⟨gs, 0, none⟩) cs [a, b, n] :: Os)))
  case first =>
    go_region
    all_goals go_wp2
    all_goals go_meet
    all_goals exact ⟨_, MS⟩
  case rest =>
    obtain ⟨g2, M3⟩ := hcut
    clear MS bx fx r0 r1 q0 qq hgl hil
    obtain ⟨w3, hw3⟩ : ∃ w3 : World, w3 = wc := ⟨_, rfl⟩
    subst hw3
    have row := M3.out.rowO 1 rfl
    have r4 : w3.cell? ⟨gi, 4, none⟩ = some (.int .i64 i4) := row.cellAt 4 (by simp)
    have MF := Lib.hid ((M3.out.alloc 3 #[.int .i64 q1, .int .i64 q2, .int .i64 (0 : Int)]).asRow (sz := 1) (n := 3) (xs := ints [q1, q2, (0 : Int)]) rfl rfl (by decide))
    clear M3 row
    go_wp2_with fail
    refine (HT1.out _).mono ?_
    rintro e w4 ⟨rfl, rfl⟩
    dsimp only
    go_wp2_with fail
    refine (HT2.out _).mono ?_
    rintro e w5 ⟨rfl, rfl⟩
    dsimp only
    go_wp2
    go_ret
    exact ⟨_, _, rfl, MF.out⟩

set_option maxRecDepth 100000 in
set_option maxHeartbeats 12800000 in
theorem both_BBl {w0 w : World} {Ks : List Box} {Os : List Row} {g gs cs gi ci : Nat} {t : TypeId} {a b n i4 now : Int} (h : Mem w0 w (⟨g, t, #[.slice (some ⟨gs, 0, none⟩) 3 cs]⟩ :: Ks) (intR (some ⟨gi, 0, none⟩) ci [1, 1, 0, 1, i4] :: intR (some ⟨gs, 0, none⟩) cs [a, b, n] :: Os)) (ha : ¬ a = 0) (hb : ¬ b = 0) :
    Calls Tryd.prog 75 #[.pointer (some ⟨g, 0, none⟩), .slice (some ⟨gi, 0, none⟩) 5 ci, .int .i64 now] w fun e w' => ∃ g' g2, e = .returned (.slice (some ⟨g', 0, none⟩) 3 3) ∧ Mem w0 w' (⟨g, t, #[.slice (some ⟨g2, 0, none⟩) 3 3]⟩ :: Ks) (intR (some ⟨g', 0, none⟩) 3 [if i4 ≤ i4 then 1 else 0, if i4 ≤ 0 then 1 else 0, i4] :: intR (some ⟨g2, 0, none⟩) 3 [1, 1, i4] :: intR (some ⟨gi, 0, none⟩) ci [1, 1, 0, 1, i4] :: intR (some ⟨gs, 0, none⟩) cs [a, b, n] :: Os) := by
  have hne : gi ≠ g := h.dis _ (List.mem_cons_self ..) _ (List.mem_cons_self ..) _ rfl
  have hne2 : g ≠ gi := Ne.symm hne
  have TT : ∀ w : World, Calls Tryd.prog 73 #[.bool true] w fun e w' => e = .returned (.int .i64 1) ∧ w = w' := fun w => by simpa using truth_any true w
  have HT1 := Lib.hid TT
  obtain ⟨q1, hq1⟩ : ∃ q : Int, 1 = q := ⟨_, rfl⟩
  rw [hq1] at HT1
  have hz1 : (if i4 ≤ i4 then (1 : Int) else 0) = q1 := by rw [if_pos (Int.le_refl _)]; exact hq1
  have HT2 : Hid (∀ w : World, Calls Tryd.prog 73 #[.bool (decide (i4 ≤ 0))] w fun e w' => e = .returned (.int .i64 (if i4 ≤ 0 then 1 else 0)) ∧ w = w') := fun w => by simpa using truth_any (decide (i4 ≤ 0)) w
  obtain ⟨q2, hq2⟩ : ∃ q : Int, (if i4 ≤ 0 then 1 else 0) = q := ⟨_, rfl⟩
  rw [hq2] at HT2
  rw [hz1, hq2]
  clear hq1 hq2 TT hz1 
  have bx := h.cellK 0 rfl
  have row := h.rowO 0 rfl
  have rs := h.rowO 1 rfl
  have r0 : w.cell? ⟨gi, 0, none⟩ = some (.int .i64 1) := row.cellAt 0 (by simp)
  have r1 : w.cell? ⟨gi, 1, none⟩ = some (.int .i64 1) := row.cellAt 1 (by simp)
  have r2 : w.cell? ⟨gi, 2, none⟩ = some (.int .i64 0) := row.cellAt 2 (by simp)
  have r3 : w.cell? ⟨gi, 3, none⟩ = some (.int .i64 1) := row.cellAt 3 (by simp)
  have r4 : w.cell? ⟨gi, 4, none⟩ = some (.int .i64 i4) := row.cellAt 4 (by simp)
  have s0 : w.cell? ⟨gs, 0, none⟩ = some (.int .i64 a) := rs.cellAt 0 (by simp)
  have s1 : w.cell? ⟨gs, 1, none⟩ = some (.int .i64 b) := rs.cellAt 1 (by simp)
  have s2 : w.cell? ⟨gs, 2, none⟩ = some (.int .i64 n) := rs.cellAt 2 (by simp)
  have ha1 : (a == 0) = false := by simpa using ha
  have hb1 : (b == 0) = false := by simpa using hb
  have MD := Lib.hid (fun q => h.drewN q)
  clear h row rs
  go_enter Tryd.func75, Tryd.ntmps75
  go_upto_region 1 with fail
  go_quiet (fail)
  have M2 := Lib.hid (MD.out nq)
  clear MD
  go_upto_region 11 with fail

  clear bx r0 r1 r2 r3 r4 s0 s1 s2
  generalize World.drewN w nq = w2 at M2 ⊢
  have row := M2.out.rowO 0 rfl
  have bx := M2.out.cellK 0 rfl
  have fx := M2.out.frozenK 0 rfl
  have hgl := (M2.out.ltK 0 rfl).2
  have r0 : w2.cell? ⟨gi, 0, none⟩ = some (.int .i64 1) := row.cellAt 0 (by simp)
  have r1 : w2.cell? ⟨gi, 1, none⟩ = some (.int .i64 1) := row.cellAt 1 (by simp)
  have hil := lt_of_cell r0
  have q0 : w2.drew.cell? ⟨gi, 0, none⟩ = some (.int .i64 1) := r0
  have qq : w2.drew.cell? ⟨gi, 1, none⟩ = some (.int .i64 1) := r1
  have hM := (((M2.out.set (i := 0) (.slice (some ⟨w2.heap.size, 0, none⟩) 3 3)).alloc 3 #[.int .i64 1, .int .i64 1, .int .i64 i4]).drew.asRow (sz := 1) (n := 3) (xs := ints [1, 1, i4]) rfl rfl (by decide))
  simp only [World.size_setCell] at hM
  have MS := Lib.hid hM
  clear hM row
  go_cut [] from 73 to 83 (fun wc => ∃ g2, Hid (Mem w0 wc (⟨g, t, #[.slice (some ⟨g2, 0, none⟩) 3 3]⟩ :: Ks) (intR (some ⟨g2, 0, none⟩) 3 [1, 1, i4] :: intR (some ⟨gi, 0, none⟩) ci [1, 1, 0, 1, i4] :: intR (some ⟨gs, 0, none⟩) cs [a, b, n] :: Os)))
  case first =>
    go_region
    all_goals go_wp2
    all_goals go_meet
    all_goals exact ⟨_, MS⟩
  case rest =>
    obtain ⟨g2, M3⟩ := hcut
    clear MS bx fx r0 r1 q0 qq hgl hil
    obtain ⟨w3, hw3⟩ : ∃ w3 : World, w3 = wc := ⟨_, rfl⟩
    subst hw3
    have row := M3.out.rowO 1 rfl
    have r4 : w3.cell? ⟨gi, 4, none⟩ = some (.int .i64 i4) := row.cellAt 4 (by simp)
    have MF := Lib.hid ((M3.out.alloc 3 #[.int .i64 q1, .int .i64 q2, .int .i64 i4]).asRow (sz := 1) (n := 3) (xs := ints [q1, q2, i4]) rfl rfl (by decide))
    clear M3 row
    go_wp2_with fail
    refine (HT1.out _).mono ?_
    rintro e w4 ⟨rfl, rfl⟩
    dsimp only
    go_wp2_with fail
    refine (HT2.out _).mono ?_
    rintro e w5 ⟨rfl, rfl⟩
    dsimp only
    go_wp2
    go_ret
    exact ⟨_, _, rfl, MF.out⟩

set_option maxRecDepth 100000 in
set_option maxHeartbeats 12800000 in
theorem both_BBc {w0 w : World} {Ks : List Box} {Os : List Row} {g gs cs gi ci : Nat} {t : TypeId} {a b n i4 now : Int} (h : Mem w0 w (⟨g, t, #[.slice (some ⟨gs, 0, none⟩) 3 cs]⟩ :: Ks) (intR (some ⟨gi, 0, none⟩) ci [1, 1, 0, 0, i4] :: intR (some ⟨gs, 0, none⟩) cs [a, b, n] :: Os)) (ha : ¬ a = 0) (hb : ¬ b = 0) :
    Calls Tryd.prog 75 #[.pointer (some ⟨g, 0, none⟩), .slice (some ⟨gi, 0, none⟩) 5 ci, .int .i64 now] w fun e w' => ∃ g' g2, e = .returned (.slice (some ⟨g', 0, none⟩) 3 3) ∧ Mem w0 w' (⟨g, t, #[.slice (some ⟨g2, 0, none⟩) 3 3]⟩ :: Ks) (intR (some ⟨g', 0, none⟩) 3 [if i4 ≤ n then 1 else 0, if n ≤ 0 then 1 else 0, n] :: intR (some ⟨g2, 0, none⟩) 3 [1, 1, n] :: intR (some ⟨gi, 0, none⟩) ci [1, 1, 0, 0, i4] :: intR (some ⟨gs, 0, none⟩) cs [a, b, n] :: Os) := by
  have hne : gi ≠ g := h.dis _ (List.mem_cons_self ..) _ (List.mem_cons_self ..) _ rfl
  have hne2 : g ≠ gi := Ne.symm hne
  have TT : ∀ w : World, Calls Tryd.prog 73 #[.bool true] w fun e w' => e = .returned (.int .i64 1) ∧ w = w' := fun w => by simpa using truth_any true w
  have HT1 : Hid (∀ w : World, Calls Tryd.prog 73 #[.bool (decide (i4 ≤ n))] w fun e w' => e = .returned (.int .i64 (if i4 ≤ n then 1 else 0)) ∧ w = w') := fun w => by simpa using truth_any (decide (i4 ≤ n)) w
  obtain ⟨q1, hq1⟩ : ∃ q : Int, (if i4 ≤ n then 1 else 0) = q := ⟨_, rfl⟩
  rw [hq1] at HT1
  have HT2 : Hid (∀ w : World, Calls Tryd.prog 73 #[.bool (decide (n ≤ 0))] w fun e w' => e = .returned (.int .i64 (if n ≤ 0 then 1 else 0)) ∧ w = w') := fun w => by simpa using truth_any (decide (n ≤ 0)) w
  obtain ⟨q2, hq2⟩ : ∃ q : Int, (if n ≤ 0 then 1 else 0) = q := ⟨_, rfl⟩
  rw [hq2] at HT2
  rw [hq1, hq2]
  clear hq1 hq2 TT 
  have bx := h.cellK 0 rfl
  have row := h.rowO 0 rfl
  have rs := h.rowO 1 rfl
  have r0 : w.cell? ⟨gi, 0, none⟩ = some (.int .i64 1) := row.cellAt 0 (by simp)
  have r1 : w.cell? ⟨gi, 1, none⟩ = some (.int .i64 1) := row.cellAt 1 (by simp)
  have r2 : w.cell? ⟨gi, 2, none⟩ = some (.int .i64 0) := row.cellAt 2 (by simp)
  have r3 : w.cell? ⟨gi, 3, none⟩ = some (.int .i64 0) := row.cellAt 3 (by simp)
  have r4 : w.cell? ⟨gi, 4, none⟩ = some (.int .i64 i4) := row.cellAt 4 (by simp)
  have s0 : w.cell? ⟨gs, 0, none⟩ = some (.int .i64 a) := rs.cellAt 0 (by simp)
  have s1 : w.cell? ⟨gs, 1, none⟩ = some (.int .i64 b) := rs.cellAt 1 (by simp)
  have s2 : w.cell? ⟨gs, 2, none⟩ = some (.int .i64 n) := rs.cellAt 2 (by simp)
  have ha1 : (a == 0) = false := by simpa using ha
  have hb1 : (b == 0) = false := by simpa using hb
  have MD := Lib.hid (fun q => h.drewN q)
  clear h row rs
  go_enter Tryd.func75, Tryd.ntmps75
  go_upto_region 1 with fail
  go_quiet (fail)
  have M2 := Lib.hid (MD.out nq)
  clear MD
  go_upto_region 11 with fail

  clear bx r0 r1 r2 r3 r4 s0 s1 s2
  generalize World.drewN w nq = w2 at M2 ⊢
  have row := M2.out.rowO 0 rfl
  have bx := M2.out.cellK 0 rfl
  have fx := M2.out.frozenK 0 rfl
  have hgl := (M2.out.ltK 0 rfl).2
  have r0 : w2.cell? ⟨gi, 0, none⟩ = some (.int .i64 1) := row.cellAt 0 (by simp)
  have r1 : w2.cell? ⟨gi, 1, none⟩ = some (.int .i64 1) := row.cellAt 1 (by simp)
  have hil := lt_of_cell r0
  have q0 : w2.drew.cell? ⟨gi, 0, none⟩ = some (.int .i64 1) := r0
  have qq : w2.drew.cell? ⟨gi, 1, none⟩ = some (.int .i64 1) := r1
  have hM := (((M2.out.set (i := 0) (.slice (some ⟨w2.heap.size, 0, none⟩) 3 3)).alloc 3 #[.int .i64 1, .int .i64 1, .int .i64 n]).drew.asRow (sz := 1) (n := 3) (xs := ints [1, 1, n]) rfl rfl (by decide))
  simp only [World.size_setCell] at hM
  have MS := Lib.hid hM
  clear hM row
  go_cut [] from 73 to 83 (fun wc => ∃ g2, Hid (Mem w0 wc (⟨g, t, #[.slice (some ⟨g2, 0, none⟩) 3 3]⟩ :: Ks) (intR (some ⟨g2, 0, none⟩) 3 [1, 1, n] :: intR (some ⟨gi, 0, none⟩) ci [1, 1, 0, 0, i4] :: intR (some ⟨gs, 0, none⟩) cs [a, b, n] :: Os)))
  case first =>
    go_region
    all_goals go_wp2
    all_goals go_meet
    all_goals exact ⟨_, MS⟩
  case rest =>
    obtain ⟨g2, M3⟩ := hcut
    clear MS bx fx r0 r1 q0 qq hgl hil
    obtain ⟨w3, hw3⟩ : ∃ w3 : World, w3 = wc := ⟨_, rfl⟩
    subst hw3
    have row := M3.out.rowO 1 rfl
    have r4 : w3.cell? ⟨gi, 4, none⟩ = some (.int .i64 i4) := row.cellAt 4 (by simp)
    have MF := Lib.hid ((M3.out.alloc 3 #[.int .i64 q1, .int .i64 q2, .int .i64 n]).asRow (sz := 1) (n := 3) (xs := ints [q1, q2, n]) rfl rfl (by decide))
    clear M3 row
    go_wp2_with fail
    refine (HT1.out _).mono ?_
    rintro e w4 ⟨rfl, rfl⟩
    dsimp only
    go_wp2_with fail
    refine (HT2.out _).mono ?_
    rintro e w5 ⟨rfl, rfl⟩
    dsimp only
    go_wp2
    go_ret
    exact ⟨_, _, rfl, MF.out⟩

set_option maxRecDepth 100000 in
set_option maxHeartbeats 12800000 in
theorem both_BCr {w0 w : World} {Ks : List Box} {Os : List Row} {g gs cs gi ci : Nat} {t : TypeId} {a b i3 n i4 now : Int} (h : Mem w0 w (⟨g, t, #[.slice (some ⟨gs, 0, none⟩) 3 cs]⟩ :: Ks) (intR (some ⟨gi, 0, none⟩) ci [1, 0, 1, i3, i4] :: intR (some ⟨gs, 0, none⟩) cs [a, b, n] :: Os)) (ha : ¬ a = 0) :
    Calls Tryd.prog 75 #[.pointer (some ⟨g, 0, none⟩), .slice (some ⟨gi, 0, none⟩) 5 ci, .int .i64 now] w fun e w' => ∃ g' g2, e = .returned (.slice (some ⟨g', 0, none⟩) 3 3) ∧ Mem w0 w' (⟨g, t, #[.slice (some ⟨g2, 0, none⟩) 3 3]⟩ :: Ks) (intR (some ⟨g', 0, none⟩) 3 [if i4 ≤ (0 : Int) then 1 else 0, if (0 : Int) ≤ 0 then 1 else 0, (0 : Int)] :: intR (some ⟨g2, 0, none⟩) 3 [1, 0, (0 : Int)] :: intR (some ⟨gi, 0, none⟩) ci [1, 0, 1, i3, i4] :: intR (some ⟨gs, 0, none⟩) cs [a, b, n] :: Os) := by
  have hne : gi ≠ g := h.dis _ (List.mem_cons_self ..) _ (List.mem_cons_self ..) _ rfl
  have hne2 : g ≠ gi := Ne.symm hne
  have TT : ∀ w : World, Calls Tryd.prog 73 #[.bool true] w fun e w' => e = .returned (.int .i64 1) ∧ w = w' := fun w => by simpa using truth_any true w
  have HT1 : Hid (∀ w : World, Calls Tryd.prog 73 #[.bool (decide (i4 ≤ (0 : Int)))] w fun e w' => e = .returned (.int .i64 (if i4 ≤ (0 : Int) then 1 else 0)) ∧ w = w') := fun w => by simpa using truth_any (decide (i4 ≤ (0 : Int))) w
  obtain ⟨q1, hq1⟩ : ∃ q : Int, (if i4 ≤ (0 : Int) then 1 else 0) = q := ⟨_, rfl⟩
  rw [hq1] at HT1
  have HT2 := Lib.hid TT
  obtain ⟨q2, hq2⟩ : ∃ q : Int, 1 = q := ⟨_, rfl⟩
  rw [hq2] at HT2
  have hz2 : (if (0 : Int) ≤ 0 then (1 : Int) else 0) = q2 := by rw [if_pos (Int.le_refl _)]; exact hq2
  rw [hq1, hz2]
  clear hq1 hq2 TT hz2
  have bx := h.cellK 0 rfl
  have row := h.rowO 0 rfl
  have rs := h.rowO 1 rfl
  have r0 : w.cell? ⟨gi, 0, none⟩ = some (.int .i64 1) := row.cellAt 0 (by simp)
  have r1 : w.cell? ⟨gi, 1, none⟩ = some (.int .i64 0) := row.cellAt 1 (by simp)
  have r2 : w.cell? ⟨gi, 2, none⟩ = some (.int .i64 1) := row.cellAt 2 (by simp)
  have r3 : w.cell? ⟨gi, 3, none⟩ = some (.int .i64 i3) := row.cellAt 3 (by simp)
  have r4 : w.cell? ⟨gi, 4, none⟩ = some (.int .i64 i4) := row.cellAt 4 (by simp)
  have s0 : w.cell? ⟨gs, 0, none⟩ = some (.int .i64 a) := rs.cellAt 0 (by simp)
  have s1 : w.cell? ⟨gs, 1, none⟩ = some (.int .i64 b) := rs.cellAt 1 (by simp)
  have s2 : w.cell? ⟨gs, 2, none⟩ = some (.int .i64 n) := rs.cellAt 2 (by simp)
  have ha1 : (a == 0) = false := by simpa using ha
  have MD := Lib.hid (fun q => h.drewN q)
  clear h row rs
  go_enter Tryd.func75, Tryd.ntmps75
  go_upto_region 1 with fail
  go_quiet (fail)
  have M2 := Lib.hid (MD.out nq)
  clear MD
  go_upto_region 11 with fail

  clear bx r0 r1 r2 r3 r4 s0 s1 s2
  generalize World.drewN w nq = w2 at M2 ⊢
  have row := M2.out.rowO 0 rfl
  have bx := M2.out.cellK 0 rfl
  have fx := M2.out.frozenK 0 rfl
  have hgl := (M2.out.ltK 0 rfl).2
  have r0 : w2.cell? ⟨gi, 0, none⟩ = some (.int .i64 1) := row.cellAt 0 (by simp)
  have r1 : w2.cell? ⟨gi, 1, none⟩ = some (.int .i64 0) := row.cellAt 1 (by simp)
  have hil := lt_of_cell r0
  have q0 : w2.drew.cell? ⟨gi, 0, none⟩ = some (.int .i64 1) := r0
  have qq : w2.drew.cell? ⟨gi, 1, none⟩ = some (.int .i64 0) := r1
  have hM := (((M2.out.set (i := 0) (.slice (some ⟨w2.heap.size, 0, none⟩) 3 3)).alloc 3 #[.int .i64 1, .int .i64 0, .int .i64 (0 : Int)]).drew.asRow (sz := 1) (n := 3) (xs := ints [1, 0, (0 : Int)]) rfl rfl (by decide))
  simp only [World.size_setCell] at hM
  have MS := Lib.hid hM
  clear hM row
  go_cut [] from 73 to 83 (fun wc => ∃ g2, Hid (Mem w0 wc (⟨g, t, #[.slice (some ⟨g2, 0, none⟩) 3 3]⟩ :: Ks) (intR (some ⟨g2, 0, none⟩) 3 [1, 0, (0 : Int)] :: intR (some ⟨gi, 0, none⟩) ci [1, 0, 1, i3, i4] :: intR (some ⟨gs, 0, none⟩) cs [a, b, n] :: Os)))
  case first =>
    go_region
    all_goals go_wp2
    all_goals go_meet
    all_goals exact ⟨_, MS⟩
  case rest =>
    obtain ⟨g2, M3⟩ := hcut
    clear MS bx fx r0 r1 q0 qq hgl hil
    obtain ⟨w3, hw3⟩ : ∃ w3 : World, w3 = wc := ⟨_, rfl⟩
    subst hw3
    have row := M3.out.rowO 1 rfl
    have r4 : w3.cell? ⟨gi, 4, none⟩ = some (.int .i64 i4) := row.cellAt 4 (by simp)
    have MF := Lib.hid ((M3.out.alloc 3 #[.int .i64 q1, .int .i64 q2, .int .i64 (0 : Int)]).asRow (sz := 1) (n := 3) (xs := ints [q1, q2, (0 : Int)]) rfl rfl (by decide))
    clear M3 row
    go_wp2_with fail
    refine (HT1.out _).mono ?_
    rintro e w4 ⟨rfl, rfl⟩
    dsimp only
    go_wp2_with fail
    refine (HT2.out _).mono ?_
    rintro e w5 ⟨rfl, rfl⟩
    dsimp only
    go_wp2
    go_ret
    exact ⟨_, _, rfl, MF.out⟩

set_option maxRecDepth 100000 in
set_option maxHeartbeats 12800000 in
theorem both_BCl {w0 w : World} {Ks : List Box} {Os : List Row} {g gs cs gi ci : Nat} {t : TypeId} {a b n i4 now : Int} (h : Mem w0 w (⟨g, t, #[.slice (some ⟨gs, 0, none⟩) 3 cs]⟩ :: Ks) (intR (some ⟨gi, 0, none⟩) ci [1, 0, 0, 1, i4] :: intR (some ⟨gs, 0, none⟩) cs [a, b, n] :: Os)) (ha : ¬ a = 0) :
    Calls Tryd.prog 75 #[.pointer (some ⟨g, 0, none⟩), .slice (some ⟨gi, 0, none⟩) 5 ci, .int .i64 now] w fun e w' => ∃ g' g2, e = .returned (.slice (some ⟨g', 0, none⟩) 3 3) ∧ Mem w0 w' (⟨g, t, #[.slice (some ⟨g2, 0, none⟩) 3 3]⟩ :: Ks) (intR (some ⟨g', 0, none⟩) 3 [if i4 ≤ i4 then 1 else 0, if i4 ≤ 0 then 1 else 0, i4] :: intR (some ⟨g2, 0, none⟩) 3 [1, 0, i4] :: intR (some ⟨gi, 0, none⟩) ci [1, 0, 0, 1, i4] :: intR (some ⟨gs, 0, none⟩) cs [a, b, n] :: Os) := by
  have hne : gi ≠ g := h.dis _ (List.mem_cons_self ..) _ (List.mem_cons_self ..) _ rfl
  have hne2 : g ≠ gi := Ne.symm hne
  have TT : ∀ w : World, Calls Tryd.prog 73 #[.bool true] w fun e w' => e = .returned (.int .i64 1) ∧ w = w' := fun w => by simpa using truth_any true w
  have HT1 := Lib.hid TT
  obtain ⟨q1, hq1⟩ : ∃ q : Int, 1 = q := ⟨_, rfl⟩
  rw [hq1] at HT1
  have hz1 : (if i4 ≤ i4 then (1 : Int) else 0) = q1 := by rw [if_pos (Int.le_refl _)]; exact hq1
  have HT2 : Hid (∀ w : World, Calls Tryd.prog 73 #[.bool (decide (i4 ≤ 0))] w fun e w' => e = .returned (.int .i64 (if i4 ≤ 0 then 1 else 0)) ∧ w = w') := fun w => by simpa using truth_any (decide (i4 ≤ 0)) w
  obtain ⟨q2, hq2⟩ : ∃ q : Int, (if i4 ≤ 0 then 1 else 0) = q := ⟨_, rfl⟩
  rw [hq2] at HT2
  rw [hz1, hq2]
  clear hq1 hq2 TT hz1 
  have bx := h.cellK 0 rfl
  have row := h.rowO 0 rfl
  have rs := h.rowO 1 rfl
  have r0 : w.cell? ⟨gi, 0, none⟩ = some (.int .i64 1) := row.cellAt 0 (by simp)
  have r1 : w.cell? ⟨gi, 1, none⟩ = some (.int .i64 0) := row.cellAt 1 (by simp)
  have r2 : w.cell? ⟨gi, 2, none⟩ = some (.int .i64 0) := row.cellAt 2 (by simp)
  have r3 : w.cell? ⟨gi, 3, none⟩ = some (.int .i64 1) := row.cellAt 3 (by simp)
  have r4 : w.cell? ⟨gi, 4, none⟩ = some (.int .i64 i4) := row.cellAt 4 (by simp)
  have s0 : w.cell? ⟨gs, 0, none⟩ = some (.int .i64 a) := rs.cellAt 0 (by simp)
  have s1 : w.cell? ⟨gs, 1, none⟩ = some (.int .i64 b) := rs.cellAt 1 (by simp)
  have s2 : w.cell? ⟨gs, 2, none⟩ = some (.int .i64 n) := rs.cellAt 2 (by simp)
  have ha1 : (a == 0) = false := by simpa using ha
  have MD := Lib.hid (fun q => h.drewN q)
  clear h row rs
  go_enter Tryd.func75, Tryd.ntmps75
  go_upto_region 1 with fail
  go_quiet (fail)
  have M2 := Lib.hid (MD.out nq)
  clear MD
  go_upto_region 11 with fail

  clear bx r0 r1 r2 r3 r4 s0 s1 s2
  generalize World.drewN w nq = w2 at M2 ⊢
  have row := M2.out.rowO 0 rfl
  have bx := M2.out.cellK 0 rfl
  have fx := M2.out.frozenK 0 rfl
  have hgl := (M2.out.ltK 0 rfl).2
  have r0 : w2.cell? ⟨gi, 0, none⟩ = some (.int .i64 1) := row.cellAt 0 (by simp)
  have r1 : w2.cell? ⟨gi, 1, none⟩ = some (.int .i64 0) := row.cellAt 1 (by simp)
  have hil := lt_of_cell r0
  have q0 : w2.drew.cell? ⟨gi, 0, none⟩ = some (.int .i64 1) := r0
  have qq : w2.drew.cell? ⟨gi, 1, none⟩ = some (.int .i64 0) := r1
  have hM := (((M2.out.set (i := 0) (.slice (some ⟨w2.heap.size, 0, none⟩) 3 3)).alloc 3 #[.int .i64 1, .int .i64 0, .int .i64 i4]).drew.asRow (sz := 1) (n := 3) (xs := ints [1, 0, i4]) rfl rfl (by decide))
  simp only [World.size_setCell] at hM
  have MS := Lib.hid hM
  clear hM row
  go_cut [] from 73 to 83 (fun wc => ∃ g2, Hid (Mem w0 wc (⟨g, t, #[.slice (some ⟨g2, 0, none⟩) 3 3]⟩ :: Ks) (intR (some ⟨g2, 0, none⟩) 3 [1, 0, i4] :: intR (some ⟨gi, 0, none⟩) ci [1, 0, 0, 1, i4] :: intR (some ⟨gs, 0, none⟩) cs [a, b, n] :: Os)))
  case first =>
    go_region
    all_goals go_wp2
    all_goals go_meet
    all_goals exact ⟨_, MS⟩
  case rest =>
    obtain ⟨g2, M3⟩ := hcut
    clear MS bx fx r0 r1 q0 qq hgl hil
    obtain ⟨w3, hw3⟩ : ∃ w3 : World, w3 = wc := ⟨_, rfl⟩
    subst hw3
    have row := M3.out.rowO 1 rfl
    have r4 : w3.cell? ⟨gi, 4, none⟩ = some (.int .i64 i4) := row.cellAt 4 (by simp)
    have MF := Lib.hid ((M3.out.alloc 3 #[.int .i64 q1, .int .i64 q2, .int .i64 i4]).asRow (sz := 1) (n := 3) (xs := ints [q1, q2, i4]) rfl rfl (by decide))
    clear M3 row
    go_wp2_with fail
    refine (HT1.out _).mono ?_
    rintro e w4 ⟨rfl, rfl⟩
    dsimp only
    go_wp2_with fail
    refine (HT2.out _).mono ?_
    rintro e w5 ⟨rfl, rfl⟩
    dsimp only
    go_wp2
    go_ret
    exact ⟨_, _, rfl, MF.out⟩

set_option maxRecDepth 100000 in
set_option maxHeartbeats 12800000 in
theorem both_BCc {w0 w : World} {Ks : List Box} {Os : List Row} {g gs cs gi ci : Nat} {t : TypeId} {a b n i4 now : Int} (h : Mem w0 w (⟨g, t, #[.slice (some ⟨gs, 0, none⟩) 3 cs]⟩ :: Ks) (intR (some ⟨gi, 0, none⟩) ci [1, 0, 0, 0, i4] :: intR (some ⟨gs, 0, none⟩) cs [a, b, n] :: Os)) (ha : ¬ a = 0) :
    Calls Tryd.prog 75 #[.pointer (some ⟨g, 0, none⟩), .slice (some ⟨gi, 0, none⟩) 5 ci, .int .i64 now] w fun e w' => ∃ g' g2, e = .returned (.slice (some ⟨g', 0, none⟩) 3 3) ∧ Mem w0 w' (⟨g, t, #[.slice (some ⟨g2, 0, none⟩) 3 3]⟩ :: Ks) (intR (some ⟨g', 0, none⟩) 3 [if i4 ≤ n then 1 else 0, if n ≤ 0 then 1 else 0, n] :: intR (some ⟨g2, 0, none⟩) 3 [1, 0, n] :: intR (some ⟨gi, 0, none⟩) ci [1, 0, 0, 0, i4] :: intR (some ⟨gs, 0, none⟩) cs [a, b, n] :: Os) := by
  have hne : gi ≠ g := h.dis _ (List.mem_cons_self ..) _ (List.mem_cons_self ..) _ rfl
  have hne2 : g ≠ gi := Ne.symm hne
  have TT : ∀ w : World, Calls Tryd.prog 73 #[.bool true] w fun e w' => e = .returned (.int .i64 1) ∧ w = w' := fun w => by simpa using truth_any true w
  have HT1 : Hid (∀ w : World, Calls Tryd.prog 73 #[.bool (decide (i4 ≤ n))] w fun e w' => e = .returned (.int .i64 (if i4 ≤ n then 1 else 0)) ∧ w = w') := fun w => by simpa using truth_any (decide (i4 ≤ n)) w
  obtain ⟨q1, hq1⟩ : ∃ q : Int, (if i4 ≤ n then 1 else 0) = q := ⟨_, rfl⟩
  rw [hq1] at HT1
  have HT2 : Hid (∀ w : World, Calls Tryd.prog 73 #[.bool (decide (n ≤ 0))] w fun e w' => e = .returned (.int .i64 (if n ≤ 0 then 1 else 0)) ∧ w = w') := fun w => by simpa using truth_any (decide (n ≤ 0)) w
  obtain ⟨q2, hq2⟩ : ∃ q : Int, (if n ≤ 0 then 1 else 0) = q := ⟨_, rfl⟩
  rw [hq2] at HT2
  rw [hq1, hq2]
  clear hq1 hq2 TT 
  have bx := h.cellK 0 rfl
  have row := h.rowO 0 rfl
  have rs := h.rowO 1 rfl
  have r0 : w.cell? ⟨gi, 0, none⟩ = some (.int .i64 1) := row.cellAt 0 (by simp)
  have r1 : w.cell? ⟨gi, 1, none⟩ = some (.int .i64 0) := row.cellAt 1 (by simp)
  have r2 : w.cell? ⟨gi, 2, none⟩ = some (.int .i64 0) := row.cellAt 2 (by simp)
  have r3 : w.cell? ⟨gi, 3, none⟩ = some (.int .i64 0) := row.cellAt 3 (by simp)
  have r4 : w.cell? ⟨gi, 4, none⟩ = some (.int .i64 i4) := row.cellAt 4 (by simp)
  have s0 : w.cell? ⟨gs, 0, none⟩ = some (.int .i64 a) := rs.cellAt 0 (by simp)
  have s1 : w.cell? ⟨gs, 1, none⟩ = some (.int .i64 b) := rs.cellAt 1 (by simp)
  have s2 : w.cell? ⟨gs, 2, none⟩ = some (.int .i64 n) := rs.cellAt 2 (by simp)
  have ha1 : (a == 0) = false := by simpa using ha
  have MD := Lib.hid (fun q => h.drewN q)
  clear h row rs
  go_enter Tryd.func75, Tryd.ntmps75
  go_upto_region 1 with fail
  go_quiet (fail)
  have M2 := Lib.hid (MD.out nq)
  clear MD
  go_upto_region 11 with fail

  clear bx r0 r1 r2 r3 r4 s0 s1 s2
  generalize World.drewN w nq = w2 at M2 ⊢
  have row := M2.out.rowO 0 rfl
  have bx := M2.out.cellK 0 rfl
  have fx := M2.out.frozenK 0 rfl
  have hgl := (M2.out.ltK 0 rfl).2
  have r0 : w2.cell? ⟨gi, 0, none⟩ = some (.int .i64 1) := row.cellAt 0 (by simp)
  have r1 : w2.cell? ⟨gi, 1, none⟩ = some (.int .i64 0) := row.cellAt 1 (by simp)
  have hil := lt_of_cell r0
  have q0 : w2.drew.cell? ⟨gi, 0, none⟩ = some (.int .i64 1) := r0
  have qq : w2.drew.cell? ⟨gi, 1, none⟩ = some (.int .i64 0) := r1
  have hM := (((M2.out.set (i := 0) (.slice (some ⟨w2.heap.size, 0, none⟩) 3 3)).alloc 3 #[.int .i64 1, .int .i64 0, .int .i64 n]).drew.asRow (sz := 1) (n := 3) (xs := ints [1, 0, n]) rfl rfl (by decide))
  simp only [World.size_setCell] at hM
  have MS := Lib.hid hM
  clear hM row
  go_cut [] from 73 to 83 (fun wc => ∃ g2, Hid (Mem w0 wc (⟨g, t, #[.slice (some ⟨g2, 0, none⟩) 3 3]⟩ :: Ks) (intR (some ⟨g2, 0, none⟩) 3 [1, 0, n] :: intR (some ⟨gi, 0, none⟩) ci [1, 0, 0, 0, i4] :: intR (some ⟨gs, 0, none⟩) cs [a, b, n] :: Os)))
  case first =>
    go_region
    all_goals go_wp2
    all_goals go_meet
    all_goals exact ⟨_, MS⟩
  case rest =>
    obtain ⟨g2, M3⟩ := hcut
    clear MS bx fx r0 r1 q0 qq hgl hil
    obtain ⟨w3, hw3⟩ : ∃ w3 : World, w3 = wc := ⟨_, rfl⟩
    subst hw3
    have row := M3.out.rowO 1 rfl
    have r4 : w3.cell? ⟨gi, 4, none⟩ = some (.int .i64 i4) := row.cellAt 4 (by simp)
    have MF := Lib.hid ((M3.out.alloc 3 #[.int .i64 q1, .int .i64 q2, .int .i64 n]).asRow (sz := 1) (n := 3) (xs := ints [q1, q2, n]) rfl rfl (by decide))
    clear M3 row
    go_wp2_with fail
    refine (HT1.out _).mono ?_
    rintro e w4 ⟨rfl, rfl⟩
    dsimp only
    go_wp2_with fail
    refine (HT2.out _).mono ?_
    rintro e w5 ⟨rfl, rfl⟩
    dsimp only
    go_wp2
    go_ret
    exact ⟨_, _, rfl, MF.out⟩

set_option maxRecDepth 100000 in
set_option maxHeartbeats 12800000 in
theorem both_CAr {w0 w : World} {Ks : List Box} {Os : List Row} {g gs cs gi ci : Nat} {t : TypeId} {a i3 n i4 now : Int} (h : Mem w0 w (⟨g, t, #[.slice (some ⟨gs, 0, none⟩) 3 cs]⟩ :: Ks) (intR (some ⟨gi, 0, none⟩) ci [0, 1, 1, i3, i4] :: intR (some ⟨gs, 0, none⟩) cs [a, 0, n] :: Os)) :
    Calls Tryd.prog 75 #[.pointer (some ⟨g, 0, none⟩), .slice (some ⟨gi, 0, none⟩) 5 ci, .int .i64 now] w fun e w' => ∃ g' g2, e = .returned (.slice (some ⟨g', 0, none⟩) 3 3) ∧ Mem w0 w' (⟨g, t, #[.slice (some ⟨g2, 0, none⟩) 3 3]⟩ :: Ks) (intR (some ⟨g', 0, none⟩) 3 [if i4 ≤ (0 : Int) then 1 else 0, if (0 : Int) ≤ 0 then 1 else 0, (0 : Int)] :: intR (some ⟨g2, 0, none⟩) 3 [0, 1, (0 : Int)] :: intR (some ⟨gi, 0, none⟩) ci [0, 1, 1, i3, i4] :: intR (some ⟨gs, 0, none⟩) cs [a, 0, n] :: Os) := by
  have hne : gi ≠ g := h.dis _ (List.mem_cons_self ..) _ (List.mem_cons_self ..) _ rfl
  have hne2 : g ≠ gi := Ne.symm hne
  have TT : ∀ w : World, Calls Tryd.prog 73 #[.bool true] w fun e w' => e = .returned (.int .i64 1) ∧ w = w' := fun w => by simpa using truth_any true w
  have HT1 : Hid (∀ w : World, Calls Tryd.prog 73 #[.bool (decide (i4 ≤ (0 : Int)))] w fun e w' => e = .returned (.int .i64 (if i4 ≤ (0 : Int) then 1 else 0)) ∧ w = w') := fun w => by simpa using truth_any (decide (i4 ≤ (0 : Int))) w
  obtain ⟨q1, hq1⟩ : ∃ q : Int, (if i4 ≤ (0 : Int) then 1 else 0) = q := ⟨_, rfl⟩
  rw [hq1] at HT1
  have HT2 := Lib.hid TT
  obtain ⟨q2, hq2⟩ : ∃ q : Int, 1 = q := ⟨_, rfl⟩
  rw [hq2] at HT2
  have hz2 : (if (0 : Int) ≤ 0 then (1 : Int) else 0) = q2 := by rw [if_pos (Int.le_refl _)]; exact hq2
  rw [hq1, hz2]
  clear hq1 hq2 TT hz2
  have bx := h.cellK 0 rfl
  have row := h.rowO 0 rfl
  have rs := h.rowO 1 rfl
  have r0 : w.cell? ⟨gi, 0, none⟩ = some (.int .i64 0) := row.cellAt 0 (by simp)
  have r1 : w.cell? ⟨gi, 1, none⟩ = some (.int .i64 1) := row.cellAt 1 (by simp)
  have r2 : w.cell? ⟨gi, 2, none⟩ = some (.int .i64 1) := row.cellAt 2 (by simp)
  have r3 : w.cell? ⟨gi, 3, none⟩ = some (.int .i64 i3) := row.cellAt 3 (by simp)
  have r4 : w.cell? ⟨gi, 4, none⟩ = some (.int .i64 i4) := row.cellAt 4 (by simp)
  have s0 : w.cell? ⟨gs, 0, none⟩ = some (.int .i64 a) := rs.cellAt 0 (by simp)
  have s1 : w.cell? ⟨gs, 1, none⟩ = some (.int .i64 0) := rs.cellAt 1 (by simp)
  have s2 : w.cell? ⟨gs, 2, none⟩ = some (.int .i64 n) := rs.cellAt 2 (by simp)
  have MD := Lib.hid (fun q => h.drewN q)
  clear h row rs
  go_enter Tryd.func75, Tryd.ntmps75
  go_upto_region 1 with fail
  go_quiet (fail)
  have M2 := Lib.hid (MD.out nq)
  clear MD
  go_upto_region 11 with fail

  clear bx r0 r1 r2 r3 r4 s0 s1 s2
  generalize World.drewN w nq = w2 at M2 ⊢
  have row := M2.out.rowO 0 rfl
  have bx := M2.out.cellK 0 rfl
  have fx := M2.out.frozenK 0 rfl
  have hgl := (M2.out.ltK 0 rfl).2
  have r0 : w2.cell? ⟨gi, 0, none⟩ = some (.int .i64 0) := row.cellAt 0 (by simp)
  have r1 : w2.cell? ⟨gi, 1, none⟩ = some (.int .i64 1) := row.cellAt 1 (by simp)
  have hil := lt_of_cell r0
  have q0 : w2.drew.cell? ⟨gi, 0, none⟩ = some (.int .i64 0) := r0
  have qq : w2.drew.cell? ⟨gi, 1, none⟩ = some (.int .i64 1) := r1
  have hM := (((M2.out.set (i := 0) (.slice (some ⟨w2.heap.size, 0, none⟩) 3 3)).alloc 3 #[.int .i64 0, .int .i64 1, .int .i64 (0 : Int)]).drew.asRow (sz := 1) (n := 3) (xs := ints [0, 1, (0 : Int)]) rfl rfl (by decide))
  simp only [World.size_setCell] at hM
  have MS := Lib.hid hM
  clear hM row
  go_cut [] from 73 to 83 (fun wc => ∃ g2, Hid (Mem w0 wc (⟨g, t, #[.slice (some ⟨g2, 0, none⟩) 3 3]⟩ :: Ks) (intR (some ⟨g2, 0, none⟩) 3 [0, 1, (0 : Int)] :: intR (some ⟨gi, 0, none⟩) ci [0, 1, 1, i3, i4] :: intR (some ⟨gs, 0, none⟩) cs [a, 0, n] :: Os)))
  case first =>
    go_region
    all_goals go_wp2
    all_goals go_meet
    all_goals exact ⟨_, MS⟩
  case rest =>
    obtain ⟨g2, M3⟩ := hcut
    clear MS bx fx r0 r1 q0 qq hgl hil
    obtain ⟨w3, hw3⟩ : ∃ w3 : World, w3 = wc := ⟨_, rfl⟩
    subst hw3
    have row := M3.out.rowO 1 rfl
    have r4 : w3.cell? ⟨gi, 4, none⟩ = some (.int .i64 i4) := row.cellAt 4 (by simp)
    have MF := Lib.hid ((M3.out.alloc 3 #[.int .i64 q1, .int .i64 q2, .int .i64 (0 : Int)]).asRow (sz := 1) (n := 3) (xs := ints [q1, q2, (0 : Int)]) rfl rfl (by decide))
    clear M3 row
    go_wp2_with fail
    refine (HT1.out _).mono ?_
    rintro e w4 ⟨rfl, rfl⟩
    dsimp only
    go_wp2_with fail
    refine (HT2.out _).mono ?_
    rintro e w5 ⟨rfl, rfl⟩
    dsimp only
    go_wp2
    go_ret
    exact ⟨_, _, rfl, MF.out⟩

set_option maxRecDepth 100000 in
set_option maxHeartbeats 12800000 in
theorem both_CAl {w0 w : World} {Ks : List Box} {Os : List Row} {g gs cs gi ci : Nat} {t : TypeId} {a n i4 now : Int} (h : Mem w0 w (⟨g, t, #[.slice (some ⟨gs, 0, none⟩) 3 cs]⟩ :: Ks) (intR (some ⟨gi, 0, none⟩) ci [0, 1, 0, 1, i4] :: intR (some ⟨gs, 0, none⟩) cs [a, 0, n] :: Os)) :
    Calls Tryd.prog 75 #[.pointer (some ⟨g, 0, none⟩), .slice (some ⟨gi, 0, none⟩) 5 ci, .int .i64 now] w fun e w' => ∃ g' g2, e = .returned (.slice (some ⟨g', 0, none⟩) 3 3) ∧ Mem w0 w' (⟨g, t, #[.slice (some ⟨g2, 0, none⟩) 3 3]⟩ :: Ks) (intR (some ⟨g', 0, none⟩) 3 [if i4 ≤ i4 then 1 else 0, if i4 ≤ 0 then 1 else 0, i4] :: intR (some ⟨g2, 0, none⟩) 3 [0, 1, i4] :: intR (some ⟨gi, 0, none⟩) ci [0, 1, 0, 1, i4] :: intR (some ⟨gs, 0, none⟩) cs [a, 0, n] :: Os) := by
  have hne : gi ≠ g := h.dis _ (List.mem_cons_self ..) _ (List.mem_cons_self ..) _ rfl
  have hne2 : g ≠ gi := Ne.symm hne
  have TT : ∀ w : World, Calls Tryd.prog 73 #[.bool true] w fun e w' => e = .returned (.int .i64 1) ∧ w = w' := fun w => by simpa using truth_any true w
  have HT1 := Lib.hid TT
  obtain ⟨q1, hq1⟩ : ∃ q : Int, 1 = q := ⟨_, rfl⟩
  rw [hq1] at HT1
  have hz1 : (if i4 ≤ i4 then (1 : Int) else 0) = q1 := by rw [if_pos (Int.le_refl _)]; exact hq1
  have HT2 : Hid (∀ w : World, Calls Tryd.prog 73 #[.bool (decide (i4 ≤ 0))] w fun e w' => e = .returned (.int .i64 (if i4 ≤ 0 then 1 else 0)) ∧ w = w') := fun w => by simpa using truth_any (decide (i4 ≤ 0)) w
  obtain ⟨q2, hq2⟩ : ∃ q : Int, (if i4 ≤ 0 then 1 else 0) = q := ⟨_, rfl⟩
  rw [hq2] at HT2
  rw [hz1, hq2]
  clear hq1 hq2 TT hz1 
  have bx := h.cellK 0 rfl
  have row := h.rowO 0 rfl
  have rs := h.rowO 1 rfl
  have r0 : w.cell? ⟨gi, 0, none⟩ = some (.int .i64 0) := row.cellAt 0 (by simp)
  have r1 : w.cell? ⟨gi, 1, none⟩ = some (.int .i64 1) := row.cellAt 1 (by simp)
  have r2 : w.cell? ⟨gi, 2, none⟩ = some (.int .i64 0) := row.cellAt 2 (by simp)
  have r3 : w.cell? ⟨gi, 3, none⟩ = some (.int .i64 1) := row.cellAt 3 (by simp)
  have r4 : w.cell? ⟨gi, 4, none⟩ = some (.int .i64 i4) := row.cellAt 4 (by simp)
  have s0 : w.cell? ⟨gs, 0, none⟩ = some (.int .i64 a) := rs.cellAt 0 (by simp)
  have s1 : w.cell? ⟨gs, 1, none⟩ = some (.int .i64 0) := rs.cellAt 1 (by simp)
  have s2 : w.cell? ⟨gs, 2, none⟩ = some (.int .i64 n) := rs.cellAt 2 (by simp)
  have MD := Lib.hid (fun q => h.drewN q)
  clear h row rs
  go_enter Tryd.func75, Tryd.ntmps75
  go_upto_region 1 with fail
  go_quiet (fail)
  have M2 := Lib.hid (MD.out nq)
  clear MD
  go_upto_region 11 with fail

  clear bx r0 r1 r2 r3 r4 s0 s1 s2
  generalize World.drewN w nq = w2 at M2 ⊢
  have row := M2.out.rowO 0 rfl
  have bx := M2.out.cellK 0 rfl
  have fx := M2.out.frozenK 0 rfl
  have hgl := (M2.out.ltK 0 rfl).2
  have r0 : w2.cell? ⟨gi, 0, none⟩ = some (.int .i64 0) := row.cellAt 0 (by simp)
  have r1 : w2.cell? ⟨gi, 1, none⟩ = some (.int .i64 1) := row.cellAt 1 (by simp)
  have hil := lt_of_cell r0
  have q0 : w2.drew.cell? ⟨gi, 0, none⟩ = some (.int .i64 0) := r0
  have qq : w2.drew.cell? ⟨gi, 1, none⟩ = some (.int .i64 1) := r1
  have hM := (((M2.out.set (i := 0) (.slice (some ⟨w2.heap.size, 0, none⟩) 3 3)).alloc 3 #[.int .i64 0, .int .i64 1, .int .i64 i4]).drew.asRow (sz := 1) (n := 3) (xs := ints [0, 1, i4]) rfl rfl (by decide))
  simp only [World.size_setCell] at hM
  have MS := Lib.hid hM
  clear hM row
  go_cut [] from 73 to 83 (fun wc => ∃ g2, Hid (Mem w0 wc (⟨g, t, #[.slice (some ⟨g2, 0, none⟩) 3 3]⟩ :: Ks) (intR (some ⟨g2, 0, none⟩) 3 [0, 1, i4] :: intR (some ⟨gi, 0, none⟩) ci [0, 1, 0, 1, i4] :: intR (some ⟨gs, 0, none⟩) cs [a, 0, n] :: Os)))
  case first =>
    go_region
    all_goals go_wp2
    all_goals go_meet
    all_goals exact ⟨_, MS⟩
  case rest =>
    obtain ⟨g2, M3⟩ := hcut
    clear MS bx fx r0 r1 q0 qq hgl hil
    obtain ⟨w3, hw3⟩ : ∃ w3 : World, w3 = wc := ⟨_, rfl⟩
    subst hw3
    have row := M3.out.rowO 1 rfl
    have r4 : w3.cell? ⟨gi, 4, none⟩ = some (.int .i64 i4) := row.cellAt 4 (by simp)
    have MF := Lib.hid ((M3.out.alloc 3 #[.int .i64 q1, .int .i64 q2, .int .i64 i4]).asRow (sz := 1) (n := 3) (xs := ints [q1, q2, i4]) rfl rfl (by decide))
    clear M3 row
    go_wp2_with fail
    refine (HT1.out _).mono ?_
    rintro e w4 ⟨rfl, rfl⟩
    dsimp only
    go_wp2_with fail
    refine (HT2.out _).mono ?_
    rintro e w5 ⟨rfl, rfl⟩
    dsimp only
    go_wp2
    go_ret
    exact ⟨_, _, rfl, MF.out⟩

set_option maxRecDepth 100000 in
set_option maxHeartbeats 12800000 in
theorem both_CAc {w0 w : World} {Ks : List Box} {Os : List Row} {g gs cs gi ci : Nat} {t : TypeId} {a n i4 now : Int} (h : Mem w0 w (⟨g, t, #[.slice (some ⟨gs, 0, none⟩) 3 cs]⟩ :: Ks) (intR (some ⟨gi, 0, none⟩) ci [0, 1, 0, 0, i4] :: intR (some ⟨gs, 0, none⟩) cs [a, 0, n] :: Os)) (hn : -32768 ≤ n) (hn' : n ≤ 32767) :
    Calls Tryd.prog 75 #[.pointer (some ⟨g, 0, none⟩), .slice (some ⟨gi, 0, none⟩) 5 ci, .int .i64 now] w fun e w' => ∃ g' g2, e = .returned (.slice (some ⟨g', 0, none⟩) 3 3) ∧ Mem w0 w' (⟨g, t, #[.slice (some ⟨g2, 0, none⟩) 3 3]⟩ :: Ks) (intR (some ⟨g', 0, none⟩) 3 [if i4 ≤ (max (n - 1) (-32768)) then 1 else 0, if (max (n - 1) (-32768)) ≤ 0 then 1 else 0, (max (n - 1) (-32768))] :: intR (some ⟨g2, 0, none⟩) 3 [0, 1, (max (n - 1) (-32768))] :: intR (some ⟨gi, 0, none⟩) ci [0, 1, 0, 0, i4] :: intR (some ⟨gs, 0, none⟩) cs [a, 0, n] :: Os) := by
  have hne : gi ≠ g := h.dis _ (List.mem_cons_self ..) _ (List.mem_cons_self ..) _ rfl
  have hne2 : g ≠ gi := Ne.symm hne
  obtain ⟨N, hN⟩ : ∃ N : Int, (max (n - 1) (-32768)) = N := ⟨_, rfl⟩
  rw [hN]
  have TT : ∀ w : World, Calls Tryd.prog 73 #[.bool true] w fun e w' => e = .returned (.int .i64 1) ∧ w = w' := fun w => by simpa using truth_any true w
  have HT1 : Hid (∀ w : World, Calls Tryd.prog 73 #[.bool (decide (i4 ≤ N))] w fun e w' => e = .returned (.int .i64 (if i4 ≤ N then 1 else 0)) ∧ w = w') := fun w => by simpa using truth_any (decide (i4 ≤ N)) w
  obtain ⟨q1, hq1⟩ : ∃ q : Int, (if i4 ≤ N then 1 else 0) = q := ⟨_, rfl⟩
  rw [hq1] at HT1
  have HT2 : Hid (∀ w : World, Calls Tryd.prog 73 #[.bool (decide (N ≤ 0))] w fun e w' => e = .returned (.int .i64 (if N ≤ 0 then 1 else 0)) ∧ w = w') := fun w => by simpa using truth_any (decide (N ≤ 0)) w
  obtain ⟨q2, hq2⟩ : ∃ q : Int, (if N ≤ 0 then 1 else 0) = q := ⟨_, rfl⟩
  rw [hq2] at HT2
  rw [hq1, hq2]
  clear hq1 hq2 TT 
  have bx := h.cellK 0 rfl
  have row := h.rowO 0 rfl
  have rs := h.rowO 1 rfl
  have r0 : w.cell? ⟨gi, 0, none⟩ = some (.int .i64 0) := row.cellAt 0 (by simp)
  have r1 : w.cell? ⟨gi, 1, none⟩ = some (.int .i64 1) := row.cellAt 1 (by simp)
  have r2 : w.cell? ⟨gi, 2, none⟩ = some (.int .i64 0) := row.cellAt 2 (by simp)
  have r3 : w.cell? ⟨gi, 3, none⟩ = some (.int .i64 0) := row.cellAt 3 (by simp)
  have r4 : w.cell? ⟨gi, 4, none⟩ = some (.int .i64 i4) := row.cellAt 4 (by simp)
  have s0 : w.cell? ⟨gs, 0, none⟩ = some (.int .i64 a) := rs.cellAt 0 (by simp)
  have s1 : w.cell? ⟨gs, 1, none⟩ = some (.int .i64 0) := rs.cellAt 1 (by simp)
  have s2 : w.cell? ⟨gs, 2, none⟩ = some (.int .i64 n) := rs.cellAt 2 (by simp)
  have hw1 : IntKind.i64.wrap (n - 1) = n - 1 := by simp [IntKind.wrap, IntKind.bits, IntKind.signed]; omega
  have MD := Lib.hid (fun q => h.drewN q)
  clear h row rs
  go_enter Tryd.func75, Tryd.ntmps75
  go_upto_region 1 with fail
  go_quiet (fail)
  have M2 := Lib.hid (MD.out nq)
  clear MD
  go_upto_region 11 with fail
  clear hN
  clear bx r0 r1 r2 r3 r4 s0 s1 s2
  generalize World.drewN w nq = w2 at M2 ⊢
  have row := M2.out.rowO 0 rfl
  have bx := M2.out.cellK 0 rfl
  have fx := M2.out.frozenK 0 rfl
  have hgl := (M2.out.ltK 0 rfl).2
  have r0 : w2.cell? ⟨gi, 0, none⟩ = some (.int .i64 0) := row.cellAt 0 (by simp)
  have r1 : w2.cell? ⟨gi, 1, none⟩ = some (.int .i64 1) := row.cellAt 1 (by simp)
  have hil := lt_of_cell r0
  have q0 : w2.drew.cell? ⟨gi, 0, none⟩ = some (.int .i64 0) := r0
  have qq : w2.drew.cell? ⟨gi, 1, none⟩ = some (.int .i64 1) := r1
  have hM := (((M2.out.set (i := 0) (.slice (some ⟨w2.heap.size, 0, none⟩) 3 3)).alloc 3 #[.int .i64 0, .int .i64 1, .int .i64 N]).drew.asRow (sz := 1) (n := 3) (xs := ints [0, 1, N]) rfl rfl (by decide))
  simp only [World.size_setCell] at hM
  have MS := Lib.hid hM
  clear hM row
  go_cut [] from 73 to 83 (fun wc => ∃ g2, Hid (Mem w0 wc (⟨g, t, #[.slice (some ⟨g2, 0, none⟩) 3 3]⟩ :: Ks) (intR (some ⟨g2, 0, none⟩) 3 [0, 1, N] :: intR (some ⟨gi, 0, none⟩) ci [0, 1, 0, 0, i4] :: intR (some ⟨gs, 0, none⟩) cs [a, 0, n] :: Os)))
  case first =>
    go_region
    all_goals go_wp2
    all_goals go_meet
    all_goals exact ⟨_, MS⟩
  case rest =>
    obtain ⟨g2, M3⟩ := hcut
    clear MS bx fx r0 r1 q0 qq hgl hil
    obtain ⟨w3, hw3⟩ : ∃ w3 : World, w3 = wc := ⟨_, rfl⟩
    subst hw3
    have row := M3.out.rowO 1 rfl
    have r4 : w3.cell? ⟨gi, 4, none⟩ = some (.int .i64 i4) := row.cellAt 4 (by simp)
    have MF := Lib.hid ((M3.out.alloc 3 #[.int .i64 q1, .int .i64 q2, .int .i64 N]).asRow (sz := 1) (n := 3) (xs := ints [q1, q2, N]) rfl rfl (by decide))
    clear M3 row
    go_wp2_with fail
    refine (HT1.out _).mono ?_
    rintro e w4 ⟨rfl, rfl⟩
    dsimp only
    go_wp2_with fail
    refine (HT2.out _).mono ?_
    rintro e w5 ⟨rfl, rfl⟩
    dsimp only
    go_wp2
    go_ret
    exact ⟨_, _, rfl, MF.out⟩

set_option maxRecDepth 100000 in
set_option maxHeartbeats 12800000 in
theorem both_CBr {w0 w : World} {Ks : List Box} {Os : List Row} {g gs cs gi ci : Nat} {t : TypeId} {a b i3 n i4 now : Int} (h : Mem w0 w (⟨g, t, #[.slice (some ⟨gs, 0, none⟩) 3 cs]⟩ :: Ks) (intR (some ⟨gi, 0, none⟩) ci [0, 1, 1, i3, i4] :: intR (some ⟨gs, 0, none⟩) cs [a, b, n] :: Os)) (hb : ¬ b = 0) :
    Calls Tryd.prog 75 #[.pointer (some ⟨g, 0, none⟩), .slice (some ⟨gi, 0, none⟩) 5 ci, .int .i64 now] w fun e w' => ∃ g' g2, e = .returned (.slice (some ⟨g', 0, none⟩) 3 3) ∧ Mem w0 w' (⟨g, t, #[.slice (some ⟨g2, 0, none⟩) 3 3]⟩ :: Ks) (intR (some ⟨g', 0, none⟩) 3 [if i4 ≤ (0 : Int) then 1 else 0, if (0 : Int) ≤ 0 then 1 else 0, (0 : Int)] :: intR (some ⟨g2, 0, none⟩) 3 [0, 1, (0 : Int)] :: intR (some ⟨gi, 0, none⟩) ci [0, 1, 1, i3, i4] :: intR (some ⟨gs, 0, none⟩) cs [a, b, n] :: Os) := by
  have hne : gi ≠ g := h.dis _ (List.mem_cons_self ..) _ (List.mem_cons_self ..) _ rfl
  have hne2 : g ≠ gi := Ne.symm hne
  have TT : ∀ w : World, Calls Tryd.prog 73 #[.bool true] w fun e w' => e = .returned (.int .i64 1) ∧ w = w' := fun w => by simpa using truth_any true w
  have HT1 : Hid (∀ w : World, Calls Tryd.prog 73 #[.bool (decide (i4 ≤ (0 : Int)))] w fun e w' => e = .returned (.int .i64 (if i4 ≤ (0 : Int) then 1 else 0)) ∧ w = w') := fun w => by simpa using truth_any (decide (i4 ≤ (0 : Int))) w
  obtain ⟨q1, hq1⟩ : ∃ q : Int, (if i4 ≤ (0 : Int) then 1 else 0) = q := ⟨_, rfl⟩
  rw [hq1] at HT1
  have HT2 := Lib.hid TT
  obtain ⟨q2, hq2⟩ : ∃ q : Int, 1 = q := ⟨_, rfl⟩
  rw [hq2] at HT2
  have hz2 : (if (0 : Int) ≤ 0 then (1 : Int) else 0) = q2 := by rw [if_pos (Int.le_refl _)]; exact hq2
  rw [hq1, hz2]
  clear hq1 hq2 TT hz2
  have bx := h.cellK 0 rfl
  have row := h.rowO 0 rfl
  have rs := h.rowO 1 rfl
  have r0 : w.cell? ⟨gi, 0, none⟩ = some (.int .i64 0) := row.cellAt 0 (by simp)
  have r1 : w.cell? ⟨gi, 1, none⟩ = some (.int .i64 1) := row.cellAt 1 (by simp)
  have r2 : w.cell? ⟨gi, 2, none⟩ = some (.int .i64 1) := row.cellAt 2 (by simp)
  have r3 : w.cell? ⟨gi, 3, none⟩ = some (.int .i64 i3) := row.cellAt 3 (by simp)
  have r4 : w.cell? ⟨gi, 4, none⟩ = some (.int .i64 i4) := row.cellAt 4 (by simp)
  have s0 : w.cell? ⟨gs, 0, none⟩ = some (.int .i64 a) := rs.cellAt 0 (by simp)
  have s1 : w.cell? ⟨gs, 1, none⟩ = some (.int .i64 b) := rs.cellAt 1 (by simp)
  have s2 : w.cell? ⟨gs, 2, none⟩ = some (.int .i64 n) := rs.cellAt 2 (by simp)
  have hb1 : (b == 0) = false := by simpa using hb
  have MD := Lib.hid (fun q => h.drewN q)
  clear h row rs
  go_enter Tryd.func75, Tryd.ntmps75
  go_upto_region 1 with fail
  go_quiet (fail)
  have M2 := Lib.hid (MD.out nq)
  clear MD
  go_upto_region 11 with fail

  clear bx r0 r1 r2 r3 r4 s0 s1 s2
  generalize World.drewN w nq = w2 at M2 ⊢
  have row := M2.out.rowO 0 rfl
  have bx := M2.out.cellK 0 rfl
  have fx := M2.out.frozenK 0 rfl
  have hgl := (M2.out.ltK 0 rfl).2
  have r0 : w2.cell? ⟨gi, 0, none⟩ = some (.int .i64 0) := row.cellAt 0 (by simp)
  have r1 : w2.cell? ⟨gi, 1, none⟩ = some (.int .i64 1) := row.cellAt 1 (by simp)
  have hil := lt_of_cell r0
  have q0 : w2.drew.cell? ⟨gi, 0, none⟩ = some (.int .i64 0) := r0
  have qq : w2.drew.cell? ⟨gi, 1, none⟩ = some (.int .i64 1) := r1
  have hM := (((M2.out.set (i := 0) (.slice (some ⟨w2.heap.size, 0, none⟩) 3 3)).alloc 3 #[.int .i64 0, .int .i64 1, .int .i64 (0 : Int)]).drew.asRow (sz := 1) (n := 3) (xs := ints [0, 1, (0 : Int)]) rfl rfl (by decide))
  simp only [World.size_setCell] at hM
  have MS := Lib.hid hM
  clear hM row
  go_cut [] from 73 to 83 (fun wc => ∃ g2, Hid (Mem w0 wc (⟨g, t, #[.slice (some ⟨g2, 0, none⟩) 3 3]⟩ :: Ks) (intR (some ⟨g2, 0, none⟩) 3 [0, 1, (0 : Int)] :: intR (some ⟨gi, 0, none⟩) ci [0, 1, 1, i3, i4] :: intR (some ⟨gs, 0, none⟩) cs [a, b, n] :: Os)))
  case first =>
    go_region
    all_goals go_wp2
    all_goals go_meet
    all_goals exact ⟨_, MS⟩
  case rest =>
    obtain ⟨g2, M3⟩ := hcut
    clear MS bx fx r0 r1 q0 qq hgl hil
    obtain ⟨w3, hw3⟩ : ∃ w3 : World, w3 = wc := ⟨_, rfl⟩
    subst hw3
    have row := M3.out.rowO 1 rfl
    have r4 : w3.cell? ⟨gi, 4, none⟩ = some (.int .i64 i4) := row.cellAt 4 (by simp)
    have MF := Lib.hid ((M3.out.alloc 3 #[.int .i64 q1, .int .i64 q2, .int .i64 (0 : Int)]).asRow (sz := 1) (n := 3) (xs := ints [q1, q2, (0 : Int)]) rfl rfl (by decide))
    clear M3 row
    go_wp2_with fail
    refine (HT1.out _).mono ?_
    rintro e w4 ⟨rfl, rfl⟩
    dsimp only
    go_wp2_with fail
    refine (HT2.out _).mono ?_
    rintro e w5 ⟨rfl, rfl⟩
    dsimp only
    go_wp2
    go_ret
    exact ⟨_, _, rfl, MF.out⟩

set_option maxRecDepth 100000 in
set_option maxHeartbeats 12800000 in
theorem both_CBl {w0 w : World} {Ks : List Box} {Os : List Row} {g gs cs gi ci : Nat} {t : TypeId} {a b n i4 now : Int} (h : Mem w0 w (⟨g, t, #[.slice (some ⟨gs, 0, none⟩) 3 cs]⟩ :: Ks) (intR (some ⟨gi, 0, none⟩) ci [0, 1, 0, 1, i4] :: intR (some ⟨gs, 0, none⟩) cs [a, b, n] :: Os)) (hb : ¬ b = 0) :
    Calls Tryd.prog 75 #[.pointer (some ⟨g, 0, none⟩), .slice (some ⟨gi, 0, none⟩) 5 ci, .int .i64 now] w fun e w' => ∃ g' g2, e = .returned (.slice (some ⟨g', 0, none⟩) 3 3) ∧ Mem w0 w' (⟨g, t, #[.slice (some ⟨g2, 0, none⟩) 3 3]⟩ :: Ks) (intR (some ⟨g', 0, none⟩) 3 [if i4 ≤ i4 then 1 else 0, if i4 ≤ 0 then 1 else 0, i4] :: intR (some ⟨g2, 0, none⟩) 3 [0, 1, i4] :: intR (some ⟨gi, 0, none⟩) ci [0, 1, 0, 1, i4] :: intR (some ⟨gs, 0, none⟩) cs [a, b, n] :: Os) := by
  have hne : gi ≠ g := h.dis _ (List.mem_cons_self ..) _ (List.mem_cons_self ..) _ rfl
  have hne2 : g ≠ gi := Ne.symm hne
  have TT : ∀ w : World, Calls Tryd.prog 73 #[.bool true] w fun e w' => e = .returned (.int .i64 1) ∧ w = w' := fun w => by simpa using truth_any true w
  have HT1 := Lib.hid TT
  obtain ⟨q1, hq1⟩ : ∃ q : Int, 1 = q := ⟨_, rfl⟩
  rw [hq1] at HT1
  have hz1 : (if i4 ≤ i4 then (1 : Int) else 0) = q1 := by rw [if_pos (Int.le_refl _)]; exact hq1
  have HT2 : Hid (∀ w : World, Calls Tryd.prog 73 #[.bool (decide (i4 ≤ 0))] w fun e w' => e = .returned (.int .i64 (if i4 ≤ 0 then 1 else 0)) ∧ w = w') := fun w => by simpa using truth_any (decide (i4 ≤ 0)) w
  obtain ⟨q2, hq2⟩ : ∃ q : Int, (if i4 ≤ 0 then 1 else 0) = q := ⟨_, rfl⟩
  rw [hq2] at HT2
  rw [hz1, hq2]
  clear hq1 hq2 TT hz1 
  have bx := h.cellK 0 rfl
  have row := h.rowO 0 rfl
  have rs := h.rowO 1 rfl
  have r0 : w.cell? ⟨gi, 0, none⟩ = some (.int .i64 0) := row.cellAt 0 (by simp)
  have r1 : w.cell? ⟨gi, 1, none⟩ = some (.int .i64 1) := row.cellAt 1 (by simp)
  have r2 : w.cell? ⟨gi, 2, none⟩ = some (.int .i64 0) := row.cellAt 2 (by simp)
  have r3 : w.cell? ⟨gi, 3, none⟩ = some (.int .i64 1) := row.cellAt 3 (by simp)
  have r4 : w.cell? ⟨gi, 4, none⟩ = some (.int .i64 i4) := row.cellAt 4 (by simp)
  have s0 : w.cell? ⟨gs, 0, none⟩ = some (.int .i64 a) := rs.cellAt 0 (by simp)
  have s1 : w.cell? ⟨gs, 1, none⟩ = some (.int .i64 b) := rs.cellAt 1 (by simp)
  have s2 : w.cell? ⟨gs, 2, none⟩ = some (.int .i64 n) := rs.cellAt 2 (by simp)
  have hb1 : (b == 0) = false := by simpa using hb
  have MD := Lib.hid (fun q => h.drewN q)
  clear h row rs
  go_enter Tryd.func75, Tryd.ntmps75
  go_upto_region 1 with fail
  go_quiet (fail)
  have M2 := Lib.hid (MD.out nq)
  clear MD
  go_upto_region 11 with fail

  clear bx r0 r1 r2 r3 r4 s0 s1 s2
  generalize World.drewN w nq = w2 at M2 ⊢
  have row := M2.out.rowO 0 rfl
  have bx := M2.out.cellK 0 rfl
  have fx := M2.out.frozenK 0 rfl
  have hgl := (M2.out.ltK 0 rfl).2
  have r0 : w2.cell? ⟨gi, 0, none⟩ = some (.int .i64 0) := row.cellAt 0 (by simp)
  have r1 : w2.cell? ⟨gi, 1, none⟩ = some (.int .i64 1) := row.cellAt 1 (by simp)
  have hil := lt_of_cell r0
  have q0 : w2.drew.cell? ⟨gi, 0, none⟩ = some (.int .i64 0) := r0
  have qq : w2.drew.cell? ⟨gi, 1, none⟩ = some (.int .i64 1) := r1
  have hM := (((M2.out.set (i := 0) (.slice (some ⟨w2.heap.size, 0, none⟩) 3 3)).alloc 3 #[.int .i64 0, .int .i64 1, .int .i64 i4]).drew.asRow (sz := 1) (n := 3) (xs := ints [0, 1, i4]) rfl rfl (by decide))
  simp only [World.size_setCell] at hM
  have MS := Lib.hid hM
  clear hM row
  go_cut [] from 73 to 83 (fun wc => ∃ g2, Hid (Mem w0 wc (⟨g, t, #[.slice (some ⟨g2, 0, none⟩) 3 3]⟩ :: Ks) (intR (some ⟨g2, 0, none⟩) 3 [0, 1, i4] :: intR (some ⟨gi, 0, none⟩) ci [0, 1, 0, 1, i4] :: intR (some ⟨gs, 0, none⟩) cs [a, b, n] :: Os)))
  case first =>
    go_region
    all_goals go_wp2
    all_goals go_meet
    all_goals exact ⟨_, MS⟩
  case rest =>
    obtain ⟨g2, M3⟩ := hcut
    clear MS bx fx r0 r1 q0 qq hgl hil
    obtain ⟨w3, hw3⟩ : ∃ w3 : World, w3 = wc := ⟨_, rfl⟩
    subst hw3
    have row := M3.out.rowO 1 rfl
    have r4 : w3.cell? ⟨gi, 4, none⟩ = some (.int .i64 i4) := row.cellAt 4 (by simp)
    have MF := Lib.hid ((M3.out.alloc 3 #[.int .i64 q1, .int .i64 q2, .int .i64 i4]).asRow (sz := 1) (n := 3) (xs := ints [q1, q2, i4]) rfl rfl (by decide))
    clear M3 row
    go_wp2_with fail
    refine (HT1.out _).mono ?_
    rintro e w4 ⟨rfl, rfl⟩
    dsimp only
    go_wp2_with fail
    refine (HT2.out _).mono ?_
    rintro e w5 ⟨rfl, rfl⟩
    dsimp only
    go_wp2
    go_ret
    exact ⟨_, _, rfl, MF.out⟩

set_option maxRecDepth 100000 in
set_option maxHeartbeats 12800000 in
theorem both_CBc {w0 w : World} {Ks : List Box} {Os : List Row} {g gs cs gi ci : Nat} {t : TypeId} {a b n i4 now : Int} (h : Mem w0 w (⟨g, t, #[.slice (some ⟨gs, 0, none⟩) 3 cs]⟩ :: Ks) (intR (some ⟨gi, 0, none⟩) ci [0, 1, 0, 0, i4] :: intR (some ⟨gs, 0, none⟩) cs [a, b, n] :: Os)) (hb : ¬ b = 0) :
    Calls Tryd.prog 75 #[.pointer (some ⟨g, 0, none⟩), .slice (some ⟨gi, 0, none⟩) 5 ci, .int .i64 now] w fun e w' => ∃ g' g2, e = .returned (.slice (some ⟨g', 0, none⟩) 3 3) ∧ Mem w0 w' (⟨g, t, #[.slice (some ⟨g2, 0, none⟩) 3 3]⟩ :: Ks) (intR (some ⟨g', 0, none⟩) 3 [if i4 ≤ n then 1 else 0, if n ≤ 0 then 1 else 0, n] :: intR (some ⟨g2, 0, none⟩) 3 [0, 1, n] :: intR (some ⟨gi, 0, none⟩) ci [0, 1, 0, 0, i4] :: intR (some ⟨gs, 0, none⟩) cs [a, b, n] :: Os) := by
  have hne : gi ≠ g := h.dis _ (List.mem_cons_self ..) _ (List.mem_cons_self ..) _ rfl
  have hne2 : g ≠ gi := Ne.symm hne
  have TT : ∀ w : World, Calls Tryd.prog 73 #[.bool true] w fun e w' => e = .returned (.int .i64 1) ∧ w = w' := fun w => by simpa using truth_any true w
  have HT1 : Hid (∀ w : World, Calls Tryd.prog 73 #[.bool (decide (i4 ≤ n))] w fun e w' => e = .returned (.int .i64 (if i4 ≤ n then 1 else 0)) ∧ w = w') := fun w => by simpa using truth_any (decide (i4 ≤ n)) w
  obtain ⟨q1, hq1⟩ : ∃ q : Int, (if i4 ≤ n then 1 else 0) = q := ⟨_, rfl⟩
  rw [hq1] at HT1
  have HT2 : Hid (∀ w : World, Calls Tryd.prog 73 #[.bool (decide (n ≤ 0))] w fun e w' => e = .returned (.int .i64 (if n ≤ 0 then 1 else 0)) ∧ w = w') := fun w => by simpa using truth_any (decide (n ≤ 0)) w
  obtain ⟨q2, hq2⟩ : ∃ q : Int, (if n ≤ 0 then 1 else 0) = q := ⟨_, rfl⟩
  rw [hq2] at HT2
  rw [hq1, hq2]
  clear hq1 hq2 TT 
  have bx := h.cellK 0 rfl
  have row := h.rowO 0 rfl
  have rs := h.rowO 1 rfl
  have r0 : w.cell? ⟨gi, 0, none⟩ = some (.int .i64 0) := row.cellAt 0 (by simp)
  have r1 : w.cell? ⟨gi, 1, none⟩ = some (.int .i64 1) := row.cellAt 1 (by simp)
  have r2 : w.cell? ⟨gi, 2, none⟩ = some (.int .i64 0) := row.cellAt 2 (by simp)
  have r3 : w.cell? ⟨gi, 3, none⟩ = some (.int .i64 0) := row.cellAt 3 (by simp)
  have r4 : w.cell? ⟨gi, 4, none⟩ = some (.int .i64 i4) := row.cellAt 4 (by simp)
  have s0 : w.cell? ⟨gs, 0, none⟩ = some (.int .i64 a) := rs.cellAt 0 (by simp)
  have s1 : w.cell? ⟨gs, 1, none⟩ = some (.int .i64 b) := rs.cellAt 1 (by simp)
  have s2 : w.cell? ⟨gs, 2, none⟩ = some (.int .i64 n) := rs.cellAt 2 (by simp)
  have hb1 : (b == 0) = false := by simpa using hb
  have MD := Lib.hid (fun q => h.drewN q)
  clear h row rs
  go_enter Tryd.func75, Tryd.ntmps75
  go_upto_region 1 with fail
  go_quiet (fail)
  have M2 := Lib.hid (MD.out nq)
  clear MD
  go_upto_region 11 with fail

  clear bx r0 r1 r2 r3 r4 s0 s1 s2
  generalize World.drewN w nq = w2 at M2 ⊢
  have row := M2.out.rowO 0 rfl
  have bx := M2.out.cellK 0 rfl
  have fx := M2.out.frozenK 0 rfl
  have hgl := (M2.out.ltK 0 rfl).2
  have r0 : w2.cell? ⟨gi, 0, none⟩ = some (.int .i64 0) := row.cellAt 0 (by simp)
  have r1 : w2.cell? ⟨gi, 1, none⟩ = some (.int .i64 1) := row.cellAt 1 (by simp)
  have hil := lt_of_cell r0
  have q0 : w2.drew.cell? ⟨gi, 0, none⟩ = some (.int .i64 0) := r0
  have qq : w2.drew.cell? ⟨gi, 1, none⟩ = some (.int .i64 1) := r1
  have hM := (((M2.out.set (i := 0) (.slice (some ⟨w2.heap.size, 0, none⟩) 3 3)).alloc 3 #[.int .i64 0, .int .i64 1, .int .i64 n]).drew.asRow (sz := 1) (n := 3) (xs := ints [0, 1, n]) rfl rfl (by decide))
  simp only [World.size_setCell] at hM
  have MS := Lib.hid hM
  clear hM row
  go_cut [] from 73 to 83 (fun wc => ∃ g2, Hid (Mem w0 wc (⟨g, t, #[.slice (some ⟨g2, 0, none⟩) 3 3]⟩ :: Ks) (intR (some ⟨g2, 0, none⟩) 3 [0, 1, n] :: intR (some ⟨gi, 0, none⟩) ci [0, 1, 0, 0, i4] :: intR (some ⟨gs, 0, none⟩) cs [a, b, n] :: Os)))
  case first =>
    go_region
    all_goals go_wp2
    all_goals go_meet
    all_goals exact ⟨_, MS⟩
  case rest =>
    obtain ⟨g2, M3⟩ := hcut
    clear MS bx fx r0 r1 q0 qq hgl hil
    obtain ⟨w3, hw3⟩ : ∃ w3 : World, w3 = wc := ⟨_, rfl⟩
    subst hw3
    have row := M3.out.rowO 1 rfl
    have r4 : w3.cell? ⟨gi, 4, none⟩ = some (.int .i64 i4) := row.cellAt 4 (by simp)
    have MF := Lib.hid ((M3.out.alloc 3 #[.int .i64 q1, .int .i64 q2, .int .i64 n]).asRow (sz := 1) (n := 3) (xs := ints [q1, q2, n]) rfl rfl (by decide))
    clear M3 row
    go_wp2_with fail
    refine (HT1.out _).mono ?_
    rintro e w4 ⟨rfl, rfl⟩
    dsimp only
    go_wp2_with fail
    refine (HT2.out _).mono ?_
    rintro e w5 ⟨rfl, rfl⟩
    dsimp only
    go_wp2
    go_ret
    exact ⟨_, _, rfl, MF.out⟩

set_option maxRecDepth 100000 in
set_option maxHeartbeats 12800000 in
theorem both_CCr {w0 w : World} {Ks : List Box} {Os : List Row} {g gs cs gi ci : Nat} {t : TypeId} {a b i3 n i4 now : Int} (h : Mem w0 w (⟨g, t, #[.slice (some ⟨gs, 0, none⟩) 3 cs]⟩ :: Ks) (intR (some ⟨gi, 0, none⟩) ci [0, 0, 1, i3, i4] :: intR (some ⟨gs, 0, none⟩) cs [a, b, n] :: Os)) :
    Calls Tryd.prog 75 #[.pointer (some ⟨g, 0, none⟩), .slice (some ⟨gi, 0, none⟩) 5 ci, .int .i64 now] w fun e w' => ∃ g' g2, e = .returned (.slice (some ⟨g', 0, none⟩) 3 3) ∧ Mem w0 w' (⟨g, t, #[.slice (some ⟨g2, 0, none⟩) 3 3]⟩ :: Ks) (intR (some ⟨g', 0, none⟩) 3 [if i4 ≤ (0 : Int) then 1 else 0, if (0 : Int) ≤ 0 then 1 else 0, (0 : Int)] :: intR (some ⟨g2, 0, none⟩) 3 [0, 0, (0 : Int)] :: intR (some ⟨gi, 0, none⟩) ci [0, 0, 1, i3, i4] :: intR (some ⟨gs, 0, none⟩) cs [a, b, n] :: Os) := by
  have hne : gi ≠ g := h.dis _ (List.mem_cons_self ..) _ (List.mem_cons_self ..) _ rfl
  have hne2 : g ≠ gi := Ne.symm hne
  have TT : ∀ w : World, Calls Tryd.prog 73 #[.bool true] w fun e w' => e = .returned (.int .i64 1) ∧ w = w' := fun w => by simpa using truth_any true w
  have HT1 : Hid (∀ w : World, Calls Tryd.prog 73 #[.bool (decide (i4 ≤ (0 : Int)))] w fun e w' => e = .returned (.int .i64 (if i4 ≤ (0 : Int) then 1 else 0)) ∧ w = w') := fun w => by simpa using truth_any (decide (i4 ≤ (0 : Int))) w
  obtain ⟨q1, hq1⟩ : ∃ q : Int, (if i4 ≤ (0 : Int) then 1 else 0) = q := ⟨_, rfl⟩
  rw [hq1] at HT1
  have HT2 := Lib.hid TT
  obtain ⟨q2, hq2⟩ : ∃ q : Int, 1 = q := ⟨_, rfl⟩
  rw [hq2] at HT2
  have hz2 : (if (0 : Int) ≤ 0 then (1 : Int) else 0) = q2 := by rw [if_pos (Int.le_refl _)]; exact hq2
  rw [hq1, hz2]
  clear hq1 hq2 TT hz2
  have bx := h.cellK 0 rfl
  have row := h.rowO 0 rfl
  have rs := h.rowO 1 rfl
  have r0 : w.cell? ⟨gi, 0, none⟩ = some (.int .i64 0) := row.cellAt 0 (by simp)
  have r1 : w.cell? ⟨gi, 1, none⟩ = some (.int .i64 0) := row.cellAt 1 (by simp)
  have r2 : w.cell? ⟨gi, 2, none⟩ = some (.int .i64 1) := row.cellAt 2 (by simp)
  have r3 : w.cell? ⟨gi, 3, none⟩ = some (.int .i64 i3) := row.cellAt 3 (by simp)
  have r4 : w.cell? ⟨gi, 4, none⟩ = some (.int .i64 i4) := row.cellAt 4 (by simp)
  have s0 : w.cell? ⟨gs, 0, none⟩ = some (.int .i64 a) := rs.cellAt 0 (by simp)
  have s1 : w.cell? ⟨gs, 1, none⟩ = some (.int .i64 b) := rs.cellAt 1 (by simp)
  have s2 : w.cell? ⟨gs, 2, none⟩ = some (.int .i64 n) := rs.cellAt 2 (by simp)
  have MD := Lib.hid (fun q => h.drewN q)
  clear h row rs
  go_enter Tryd.func75, Tryd.ntmps75
  go_upto_region 1 with fail
  go_quiet (fail)
  have M2 := Lib.hid (MD.out nq)
  clear MD
  go_upto_region 11 with fail

  clear bx r0 r1 r2 r3 r4 s0 s1 s2
  generalize World.drewN w nq = w2 at M2 ⊢
  have row := M2.out.rowO 0 rfl
  have bx := M2.out.cellK 0 rfl
  have fx := M2.out.frozenK 0 rfl
  have hgl := (M2.out.ltK 0 rfl).2
  have r0 : w2.cell? ⟨gi, 0, none⟩ = some (.int .i64 0) := row.cellAt 0 (by simp)
  have r1 : w2.cell? ⟨gi, 1, none⟩ = some (.int .i64 0) := row.cellAt 1 (by simp)
  have hil := lt_of_cell r0
  have q0 : w2.drew.cell? ⟨gi, 0, none⟩ = some (.int .i64 0) := r0
  have qq : w2.drew.cell? ⟨gi, 1, none⟩ = some (.int .i64 0) := r1
  have hM := (((M2.out.set (i := 0) (.slice (some ⟨w2.heap.size, 0, none⟩) 3 3)).alloc 3 #[.int .i64 0, .int .i64 0, .int .i64 (0 : Int)]).drew.asRow (sz := 1) (n := 3) (xs := ints [0, 0, (0 : Int)]) rfl rfl (by decide))
  simp only [World.size_setCell] at hM
  have MS := Lib.hid hM
  clear hM row
  go_cut [] from 73 to 83 (fun wc => ∃ g2, Hid (Mem w0 wc (⟨g, t, #[.slice (some ⟨g2, 0, none⟩) 3 3]⟩ :: Ks) (intR (some ⟨g2, 0, none⟩) 3 [0, 0, (0 : Int)] :: intR (some ⟨gi, 0, none⟩) ci [0, 0, 1, i3, i4] :: intR (some ⟨gs, 0, none⟩) cs [a, b, n] :: Os)))
  case first =>
    go_region
    all_goals go_wp2
    all_goals go_meet
    all_goals exact ⟨_, MS⟩
  case rest =>
    obtain ⟨g2, M3⟩ := hcut
    clear MS bx fx r0 r1 q0 qq hgl hil
    obtain ⟨w3, hw3⟩ : ∃ w3 : World, w3 = wc := ⟨_, rfl⟩
    subst hw3
    have row := M3.out.rowO 1 rfl
    have r4 : w3.cell? ⟨gi, 4, none⟩ = some (.int .i64 i4) := row.cellAt 4 (by simp)
    have MF := Lib.hid ((M3.out.alloc 3 #[.int .i64 q1, .int .i64 q2, .int .i64 (0 : Int)]).asRow (sz := 1) (n := 3) (xs := ints [q1, q2, (0 : Int)]) rfl rfl (by decide))
    clear M3 row
    go_wp2_with fail
    refine (HT1.out _).mono ?_
    rintro e w4 ⟨rfl, rfl⟩
    dsimp only
    go_wp2_with fail
    refine (HT2.out _).mono ?_
    rintro e w5 ⟨rfl, rfl⟩
    dsimp only
    go_wp2
    go_ret
    exact ⟨_, _, rfl, MF.out⟩

set_option maxRecDepth 100000 in
set_option maxHeartbeats 12800000 in
theorem both_CCl {w0 w : World} {Ks : List Box} {Os : List Row} {g gs cs gi ci : Nat} {t : TypeId} {a b n i4 now : Int} (h : Mem w0 w (⟨g, t, #[.slice (some ⟨gs, 0, none⟩) 3 cs]⟩ :: Ks) (intR (some ⟨gi, 0, none⟩) ci [0, 0, 0, 1, i4] :: intR (some ⟨gs, 0, none⟩) cs [a, b, n] :: Os)) :
    Calls Tryd.prog 75 #[.pointer (some ⟨g, 0, none⟩), .slice (some ⟨gi, 0, none⟩) 5 ci, .int .i64 now] w fun e w' => ∃ g' g2, e = .returned (.slice (some ⟨g', 0, none⟩) 3 3) ∧ Mem w0 w' (⟨g, t, #[.slice (some ⟨g2, 0, none⟩) 3 3]⟩ :: Ks) (intR (some ⟨g', 0, none⟩) 3 [if i4 ≤ i4 then 1 else 0, if i4 ≤ 0 then 1 else 0, i4] :: intR (some ⟨g2, 0, none⟩) 3 [0, 0, i4] :: intR (some ⟨gi, 0, none⟩) ci [0, 0, 0, 1, i4] :: intR (some ⟨gs, 0, none⟩) cs [a, b, n] :: Os) := by
  have hne : gi ≠ g := h.dis _ (List.mem_cons_self ..) _ (List.mem_cons_self ..) _ rfl
  have hne2 : g ≠ gi := Ne.symm hne
  have TT : ∀ w : World, Calls Tryd.prog 73 #[.bool true] w fun e w' => e = .returned (.int .i64 1) ∧ w = w' := fun w => by simpa using truth_any true w
  have HT1 := Lib.hid TT
  obtain ⟨q1, hq1⟩ : ∃ q : Int, 1 = q := ⟨_, rfl⟩
  rw [hq1] at HT1
  have hz1 : (if i4 ≤ i4 then (1 : Int) else 0) = q1 := by rw [if_pos (Int.le_refl _)]; exact hq1
  have HT2 : Hid (∀ w : World, Calls Tryd.prog 73 #[.bool (decide (i4 ≤ 0))] w fun e w' => e = .returned (.int .i64 (if i4 ≤ 0 then 1 else 0)) ∧ w = w') := fun w => by simpa using truth_any (decide (i4 ≤ 0)) w
  obtain ⟨q2, hq2⟩ : ∃ q : Int, (if i4 ≤ 0 then 1 else 0) = q := ⟨_, rfl⟩
  rw [hq2] at HT2
  rw [hz1, hq2]
  clear hq1 hq2 TT hz1 
  have bx := h.cellK 0 rfl
  have row := h.rowO 0 rfl
  have rs := h.rowO 1 rfl
  have r0 : w.cell? ⟨gi, 0, none⟩ = some (.int .i64 0) := row.cellAt 0 (by simp)
  have r1 : w.cell? ⟨gi, 1, none⟩ = some (.int .i64 0) := row.cellAt 1 (by simp)
  have r2 : w.cell? ⟨gi, 2, none⟩ = some (.int .i64 0) := row.cellAt 2 (by simp)
  have r3 : w.cell? ⟨gi, 3, none⟩ = some (.int .i64 1) := row.cellAt 3 (by simp)
  have r4 : w.cell? ⟨gi, 4, none⟩ = some (.int .i64 i4) := row.cellAt 4 (by simp)
  have s0 : w.cell? ⟨gs, 0, none⟩ = some (.int .i64 a) := rs.cellAt 0 (by simp)
  have s1 : w.cell? ⟨gs, 1, none⟩ = some (.int .i64 b) := rs.cellAt 1 (by simp)
  have s2 : w.cell? ⟨gs, 2, none⟩ = some (.int .i64 n) := rs.cellAt 2 (by simp)
  have MD := Lib.hid (fun q => h.drewN q)
  clear h row rs
  go_enter Tryd.func75, Tryd.ntmps75
  go_upto_region 1 with fail
  go_quiet (fail)
  have M2 := Lib.hid (MD.out nq)
  clear MD
  go_upto_region 11 with fail

  clear bx r0 r1 r2 r3 r4 s0 s1 s2
  generalize World.drewN w nq = w2 at M2 ⊢
  have row := M2.out.rowO 0 rfl
  have bx := M2.out.cellK 0 rfl
  have fx := M2.out.frozenK 0 rfl
  have hgl := (M2.out.ltK 0 rfl).2
  have r0 : w2.cell? ⟨gi, 0, none⟩ = some (.int .i64 0) := row.cellAt 0 (by simp)
  have r1 : w2.cell? ⟨gi, 1, none⟩ = some (.int .i64 0) := row.cellAt 1 (by simp)
  have hil := lt_of_cell r0
  have q0 : w2.drew.cell? ⟨gi, 0, none⟩ = some (.int .i64 0) := r0
  have qq : w2.drew.cell? ⟨gi, 1, none⟩ = some (.int .i64 0) := r1
  have hM := (((M2.out.set (i := 0) (.slice (some ⟨w2.heap.size, 0, none⟩) 3 3)).alloc 3 #[.int .i64 0, .int .i64 0, .int .i64 i4]).drew.asRow (sz := 1) (n := 3) (xs := ints [0, 0, i4]) rfl rfl (by decide))
  simp only [World.size_setCell] at hM
  have MS := Lib.hid hM
  clear hM row
  go_cut [] from 73 to 83 (fun wc => ∃ g2, Hid (Mem w0 wc (⟨g, t, #[.slice (some ⟨g2, 0, none⟩) 3 3]⟩ :: Ks) (intR (some ⟨g2, 0, none⟩) 3 [0, 0, i4] :: intR (some ⟨gi, 0, none⟩) ci [0, 0, 0, 1, i4] :: intR (some ⟨gs, 0, none⟩) cs [a, b, n] :: Os)))
  case first =>
    go_region
    all_goals go_wp2
    all_goals go_meet
    all_goals exact ⟨_, MS⟩
  case rest =>
    obtain ⟨g2, M3⟩ := hcut
    clear MS bx fx r0 r1 q0 qq hgl hil
    obtain ⟨w3, hw3⟩ : ∃ w3 : World, w3 = wc := ⟨_, rfl⟩
    subst hw3
    have row := M3.out.rowO 1 rfl
    have r4 : w3.cell? ⟨gi, 4, none⟩ = some (.int .i64 i4) := row.cellAt 4 (by simp)
    have MF := Lib.hid ((M3.out.alloc 3 #[.int .i64 q1, .int .i64 q2, .int .i64 i4]).asRow (sz := 1) (n := 3) (xs := ints [q1, q2, i4]) rfl rfl (by decide))
    clear M3 row
    go_wp2_with fail
    refine (HT1.out _).mono ?_
    rintro e w4 ⟨rfl, rfl⟩
    dsimp only
    go_wp2_with fail
    refine (HT2.out _).mono ?_
    rintro e w5 ⟨rfl, rfl⟩
    dsimp only
    go_wp2
    go_ret
    exact ⟨_, _, rfl, MF.out⟩

set_option maxRecDepth 100000 in
set_option maxHeartbeats 12800000 in
theorem both_CCc {w0 w : World} {Ks : List Box} {Os : List Row} {g gs cs gi ci : Nat} {t : TypeId} {a b n i4 now : Int} (h : Mem w0 w (⟨g, t, #[.slice (some ⟨gs, 0, none⟩) 3 cs]⟩ :: Ks) (intR (some ⟨gi, 0, none⟩) ci [0, 0, 0, 0, i4] :: intR (some ⟨gs, 0, none⟩) cs [a, b, n] :: Os)) :
    Calls Tryd.prog 75 #[.pointer (some ⟨g, 0, none⟩), .slice (some ⟨gi, 0, none⟩) 5 ci, .int .i64 now] w fun e w' => ∃ g' g2, e = .returned (.slice (some ⟨g', 0, none⟩) 3 3) ∧ Mem w0 w' (⟨g, t, #[.slice (some ⟨g2, 0, none⟩) 3 3]⟩ :: Ks) (intR (some ⟨g', 0, none⟩) 3 [if i4 ≤ n then 1 else 0, if n ≤ 0 then 1 else 0, n] :: intR (some ⟨g2, 0, none⟩) 3 [0, 0, n] :: intR (some ⟨gi, 0, none⟩) ci [0, 0, 0, 0, i4] :: intR (some ⟨gs, 0, none⟩) cs [a, b, n] :: Os) := by
  have hne : gi ≠ g := h.dis _ (List.mem_cons_self ..) _ (List.mem_cons_self ..) _ rfl
  have hne2 : g ≠ gi := Ne.symm hne
  have TT : ∀ w : World, Calls Tryd.prog 73 #[.bool true] w fun e w' => e = .returned (.int .i64 1) ∧ w = w' := fun w => by simpa using truth_any true w
  have HT1 : Hid (∀ w : World, Calls Tryd.prog 73 #[.bool (decide (i4 ≤ n))] w fun e w' => e = .returned (.int .i64 (if i4 ≤ n then 1 else 0)) ∧ w = w') := fun w => by simpa using truth_any (decide (i4 ≤ n)) w
  obtain ⟨q1, hq1⟩ : ∃ q : Int, (if i4 ≤ n then 1 else 0) = q := ⟨_, rfl⟩
  rw [hq1] at HT1
  have HT2 : Hid (∀ w : World, Calls Tryd.prog 73 #[.bool (decide (n ≤ 0))] w fun e w' => e = .returned (.int .i64 (if n ≤ 0 then 1 else 0)) ∧ w = w') := fun w => by simpa using truth_any (decide (n ≤ 0)) w
  obtain ⟨q2, hq2⟩ : ∃ q : Int, (if n ≤ 0 then 1 else 0) = q := ⟨_, rfl⟩
  rw [hq2] at HT2
  rw [hq1, hq2]
  clear hq1 hq2 TT 
  have bx := h.cellK 0 rfl
  have row := h.rowO 0 rfl
  have rs := h.rowO 1 rfl
  have r0 : w.cell? ⟨gi, 0, none⟩ = some (.int .i64 0) := row.cellAt 0 (by simp)
  have r1 : w.cell? ⟨gi, 1, none⟩ = some (.int .i64 0) := row.cellAt 1 (by simp)
  have r2 : w.cell? ⟨gi, 2, none⟩ = some (.int .i64 0) := row.cellAt 2 (by simp)
  have r3 : w.cell? ⟨gi, 3, none⟩ = some (.int .i64 0) := row.cellAt 3 (by simp)
  have r4 : w.cell? ⟨gi, 4, none⟩ = some (.int .i64 i4) := row.cellAt 4 (by simp)
  have s0 : w.cell? ⟨gs, 0, none⟩ = some (.int .i64 a) := rs.cellAt 0 (by simp)
  have s1 : w.cell? ⟨gs, 1, none⟩ = some (.int .i64 b) := rs.cellAt 1 (by simp)
  have s2 : w.cell? ⟨gs, 2, none⟩ = some (.int .i64 n) := rs.cellAt 2 (by simp)
  have MD := Lib.hid (fun q => h.drewN q)
  clear h row rs
  go_enter Tryd.func75, Tryd.ntmps75
  go_upto_region 1 with fail
  go_quiet (fail)
  have M2 := Lib.hid (MD.out nq)
  clear MD
  go_upto_region 11 with fail

  clear bx r0 r1 r2 r3 r4 s0 s1 s2
  generalize World.drewN w nq = w2 at M2 ⊢
  have row := M2.out.rowO 0 rfl
  have bx := M2.out.cellK 0 rfl
  have fx := M2.out.frozenK 0 rfl
  have hgl := (M2.out.ltK 0 rfl).2
  have r0 : w2.cell? ⟨gi, 0, none⟩ = some (.int .i64 0) := row.cellAt 0 (by simp)
  have r1 : w2.cell? ⟨gi, 1, none⟩ = some (.int .i64 0) := row.cellAt 1 (by simp)
  have hil := lt_of_cell r0
  have q0 : w2.drew.cell? ⟨gi, 0, none⟩ = some (.int .i64 0) := r0
  have qq : w2.drew.cell? ⟨gi, 1, none⟩ = some (.int .i64 0) := r1
  have hM := (((M2.out.set (i := 0) (.slice (some ⟨w2.heap.size, 0, none⟩) 3 3)).alloc 3 #[.int .i64 0, .int .i64 0, .int .i64 n]).drew.asRow (sz := 1) (n := 3) (xs := ints [0, 0, n]) rfl rfl (by decide))
  simp only [World.size_setCell] at hM
  have MS := Lib.hid hM
  clear hM row
  go_cut [] from 73 to 83 (fun wc => ∃ g2, Hid (Mem w0 wc (⟨g, t, #[.slice (some ⟨g2, 0, none⟩) 3 3]⟩ :: Ks) (intR (some ⟨g2, 0, none⟩) 3 [0, 0, n] :: intR (some ⟨gi, 0, none⟩) ci [0, 0, 0, 0, i4] :: intR (some ⟨gs, 0, none⟩) cs [a, b, n] :: Os)))
  case first =>
    go_region
    all_goals go_wp2
    all_goals go_meet
    all_goals exact ⟨_, MS⟩
  case rest =>
    obtain ⟨g2, M3⟩ := hcut
    clear MS bx fx r0 r1 q0 qq hgl hil
    obtain ⟨w3, hw3⟩ : ∃ w3 : World, w3 = wc := ⟨_, rfl⟩
    subst hw3
    have row := M3.out.rowO 1 rfl
    have r4 : w3.cell? ⟨gi, 4, none⟩ = some (.int .i64 i4) := row.cellAt 4 (by simp)
    have MF := Lib.hid ((M3.out.alloc 3 #[.int .i64 q1, .int .i64 q2, .int .i64 n]).asRow (sz := 1) (n := 3) (xs := ints [q1, q2, n]) rfl rfl (by decide))
    clear M3 row
    go_wp2_with fail
    refine (HT1.out _).mono ?_
    rintro e w4 ⟨rfl, rfl⟩
    dsimp only
    go_wp2_with fail
    refine (HT2.out _).mono ?_
    rintro e w5 ⟨rfl, rfl⟩
    dsimp only
    go_wp2
    go_ret
    exact ⟨_, _, rfl, MF.out⟩

end Go.Proofs.YthgjjclmepfbpaaDoor.Blk
