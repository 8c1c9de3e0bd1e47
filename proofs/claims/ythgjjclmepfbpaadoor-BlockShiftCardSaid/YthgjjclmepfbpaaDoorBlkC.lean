/-
  The steps of tp. Conditions: the box and the row are the call's own; times lie within 32 bits.
-/
import Derived.Test.YthgjjclmepfbpaaDoorBlkA
namespace Go.Proofs.YthgjjclmepfbpaaDoor.Blk
open Go.RowKit Go.Proofs.YthgjjclmepfbpaaDoor.W Go.Proofs.YthgjjclmepfbpaaDoor.Ints Go.Proofs.YthgjjclmepfbpaaDoor.Cell Go.Proofs.YthgjjclmepfbpaaDoor.Num

set_option maxRecDepth 100000 in
set_option maxHeartbeats 12800000 in
theorem tp_new {w0 w : World} {Ks : List Box} {Os : List Row} {g gi ci : Nat} {t : TypeId} {b d pt now : Int} (h : Mem w0 w (⟨g, t, c4 0 b 0 d⟩ :: Ks) (intR (some ⟨gi, 0, none⟩) ci [1, pt] :: Os)) (hn : 0 ≤ now) (hn' : now ≤ 4294967295)  :
    Calls Tryd.prog 69 #[.pointer (some ⟨g, 0, none⟩), .slice (some ⟨gi, 0, none⟩) 2 ci, .int .i64 now] w fun e w' => ∃ g', e = .returned (.slice (some ⟨g', 0, none⟩) 2 2) ∧ Mem w0 w' (⟨g, t, c4 (if farF now now pt == pt then 0 else 1) (if farF now now pt == pt then 0 else now) 1 (farF now now pt)⟩ :: Ks) (intR (some ⟨g', 0, none⟩) 2 [if farF now now pt == pt then 0 else 1, farF now now pt] :: intR (some ⟨gi, 0, none⟩) ci [1, pt] :: Os) := by
  obtain ⟨F, hF⟩ : ∃ F, farF now now pt = F := ⟨_, rfl⟩
  rw [hF]
  have HF := Lib.hid hF
  clear hF
  obtain ⟨y, hy⟩ : ∃ y : Int, (if (F == pt) = true then 0 else now) = y := ⟨_, rfl⟩
  obtain ⟨x, hx⟩ : ∃ x : Int, (if (F == pt) = true then 0 else 1) = x := ⟨_, rfl⟩
  rw [hx, hy]
  have HX := Lib.hid (And.intro hx hy)
  clear hx hy
  have bx := h.cellK 0 rfl
  have fx := h.frozenK 0 rfl
  have row := h.rowO 0 rfl
  have r0 : w.cell? ⟨gi, 0, none⟩ = some (.int .i64 1) := row.cellAt 0 (by simp)
  have r1 : w.cell? ⟨gi, 1, none⟩ = some (.int .i64 pt) := row.cellAt 1 (by simp)
  have M := Lib.hid h
  have hbg := begin_clock (now := now) M.out
  rw [if_pos rfl, if_pos rfl] at hbg
  have HBG := Lib.hid hbg
  clear hbg
  clear h row
  go_enter Tryd.func69, Tryd.ntmps69
  go_wp2_with fail
  refine HBG.out.mono ?_
  rintro e w1 ⟨rfl, hm1⟩
  dsimp only
  have M1 := Lib.hid hm1
  clear M hm1 bx fx r0 r1 HBG
  have bx := M1.out.cellK 0 rfl
  have row := M1.out.rowO 0 rfl
  have r1 : w1.cell? ⟨gi, 1, none⟩ = some (.int .i64 pt) := row.cellAt 1 (by simp)
  clear row
  go_upto_region 4 with fail
  have q0 : w1.drew.cell? ⟨gi, 1, none⟩ = some (.int .i64 pt) := r1
  go_region_held3 (fun w' => w'.cell? ⟨gi, 1, none⟩ = some (.int .i64 pt))
    (with_reducible assumption)
    ((go_at_call 67
      refine (over_clock M1.out.drew hn hn' hn hn').mono ?_
      rintro e w2 ⟨rfl, hm2⟩
      dsimp only
      rw [HF.out] at hm2 ⊢
      have M2 := Lib.hid hm2
      have row2 := hm2.rowO 0 rfl
      have q2 : w2.cell? ⟨gi, 1, none⟩ = some (.int .i64 pt) := row2.cellAt 1 (by simp)
      clear hm2 row2))
  clear q0 q2 r1 bx
  cases hov : (F == pt)
  · obtain ⟨hx, hy⟩ := HX.out
    rw [hov] at hx hy
    simp only [Bool.false_eq_true, if_false] at hx hy
    subst hx hy
    clear HX
    have bx := M2.out.cellK 0 rfl
    have fx := M2.out.frozenK 0 rfl
    have row := M2.out.rowO 0 rfl
    have r0 : w2.cell? ⟨gi, 0, none⟩ = some (.int .i64 1) := row.cellAt 0 (by simp)
    have hne : gi ≠ g := M2.out.dis _ (List.mem_cons_self ..) _ (List.mem_cons_self ..) _ rfl
    have hne2 : g ≠ gi := Ne.symm hne
    have MS := Lib.hid (M2.out.set (i := 2) (.int .i64 1))
    clear row
    go_upto_region 9 with fail
    generalize World.setCell _ _ _ = w3 at MS ⊢
    have M3 : Hid (Mem w0 w3 (⟨g, t, c4 1 now 1 F⟩ :: Ks) (intR (some ⟨gi, 0, none⟩) ci [1, pt] :: Os)) := MS
    clear MS M2 bx fx r0 hne hne2
    have bx := M3.out.cellK 0 rfl
    have p2 : w3.cell? ⟨g, 0, none⟩ = some (.int .i64 1) := bx 0
    have p3 : w3.cell? ⟨g, 3, none⟩ = some (.int .i64 F) := bx 3
    have q9 : w3.drew.cell? ⟨g, 0, none⟩ = some (.int .i64 1) ∧ w3.drew.cell? ⟨g, 3, none⟩ = some (.int .i64 F) := ⟨p2, p3⟩
    have hlt := (M3.out.ltK 0 rfl).2
    have MF := Lib.hid ((M3.out.alloc 3 #[.int .i64 1, .int .i64 F]).drew.asRow (sz := 1) (n := 2) (xs := ints [1, F]) rfl rfl (by decide))
    clear M3 bx
    go_upto_region 9 with fail
    go_region_held3 (fun w' => w'.cell? ⟨g, 0, none⟩ = some (.int .i64 1) ∧ w'.cell? ⟨g, 3, none⟩ = some (.int .i64 F))
      (first | with_reducible assumption | (refine ⟨?_, ?_⟩ <;> go_simp))
      (fail)
    go_wp2
    go_ret
    exact ⟨_, rfl, MF.out⟩
  · obtain ⟨hx, hy⟩ := HX.out
    rw [hov] at hx hy
    simp only [if_true] at hx hy
    subst hx hy
    clear HX
    have bx := M2.out.cellK 0 rfl
    have fx := M2.out.frozenK 0 rfl
    have row := M2.out.rowO 0 rfl
    have r0 : w2.cell? ⟨gi, 0, none⟩ = some (.int .i64 1) := row.cellAt 0 (by simp)
    have hne : gi ≠ g := M2.out.dis _ (List.mem_cons_self ..) _ (List.mem_cons_self ..) _ rfl
    have hne2 : g ≠ gi := Ne.symm hne
    have MS := Lib.hid (((M2.out.set (i := 0) (.int .i64 0)).set (i := 1) (.int .i64 0)).set (i := 2) (.int .i64 1))
    clear row
    go_upto_region 9 with fail
    generalize World.setCell (World.setCell (World.setCell _ _ _) _ _) _ _ = w3 at MS ⊢
    have M3 : Hid (Mem w0 w3 (⟨g, t, c4 0 0 1 F⟩ :: Ks) (intR (some ⟨gi, 0, none⟩) ci [1, pt] :: Os)) := MS
    clear MS M2 bx fx r0 hne hne2
    have bx := M3.out.cellK 0 rfl
    have p2 : w3.cell? ⟨g, 0, none⟩ = some (.int .i64 0) := bx 0
    have p3 : w3.cell? ⟨g, 3, none⟩ = some (.int .i64 F) := bx 3
    have q9 : w3.drew.cell? ⟨g, 0, none⟩ = some (.int .i64 0) ∧ w3.drew.cell? ⟨g, 3, none⟩ = some (.int .i64 F) := ⟨p2, p3⟩
    have hlt := (M3.out.ltK 0 rfl).2
    have MF := Lib.hid ((M3.out.alloc 3 #[.int .i64 0, .int .i64 F]).drew.asRow (sz := 1) (n := 2) (xs := ints [0, F]) rfl rfl (by decide))
    clear M3 bx
    go_upto_region 9 with fail
    go_region_held3 (fun w' => w'.cell? ⟨g, 0, none⟩ = some (.int .i64 0) ∧ w'.cell? ⟨g, 3, none⟩ = some (.int .i64 F))
      (first | with_reducible assumption | (refine ⟨?_, ?_⟩ <;> go_simp))
      (fail)
    go_wp2
    go_ret
    exact ⟨_, rfl, MF.out⟩

set_option maxRecDepth 100000 in
set_option maxHeartbeats 12800000 in
theorem tp_go {w0 w : World} {Ks : List Box} {Os : List Row} {g gi ci : Nat} {t : TypeId} {b d pt now : Int} (h : Mem w0 w (⟨g, t, c4 1 b 0 d⟩ :: Ks) (intR (some ⟨gi, 0, none⟩) ci [1, pt] :: Os)) (hn : 0 ≤ now) (hn' : now ≤ 4294967295) (hb : 0 ≤ b) (hb' : b ≤ 4294967295)  :
    Calls Tryd.prog 69 #[.pointer (some ⟨g, 0, none⟩), .slice (some ⟨gi, 0, none⟩) 2 ci, .int .i64 now] w fun e w' => ∃ g', e = .returned (.slice (some ⟨g', 0, none⟩) 2 2) ∧ Mem w0 w' (⟨g, t, c4 (if farF now b pt == pt then 0 else 1) (if farF now b pt == pt then 0 else b) 1 (farF now b pt)⟩ :: Ks) (intR (some ⟨g', 0, none⟩) 2 [if farF now b pt == pt then 0 else 1, farF now b pt] :: intR (some ⟨gi, 0, none⟩) ci [1, pt] :: Os) := by
  obtain ⟨F, hF⟩ : ∃ F, farF now b pt = F := ⟨_, rfl⟩
  rw [hF]
  have HF := Lib.hid hF
  clear hF
  obtain ⟨y, hy⟩ : ∃ y : Int, (if (F == pt) = true then 0 else b) = y := ⟨_, rfl⟩
  obtain ⟨x, hx⟩ : ∃ x : Int, (if (F == pt) = true then 0 else 1) = x := ⟨_, rfl⟩
  rw [hx, hy]
  have HX := Lib.hid (And.intro hx hy)
  clear hx hy
  have bx := h.cellK 0 rfl
  have fx := h.frozenK 0 rfl
  have row := h.rowO 0 rfl
  have r0 : w.cell? ⟨gi, 0, none⟩ = some (.int .i64 1) := row.cellAt 0 (by simp)
  have r1 : w.cell? ⟨gi, 1, none⟩ = some (.int .i64 pt) := row.cellAt 1 (by simp)
  have M := Lib.hid h
  have hbg := begin_clock (now := now) M.out
  rw [if_neg (by decide), if_neg (by decide)] at hbg
  have HBG := Lib.hid hbg
  clear hbg
  clear h row
  go_enter Tryd.func69, Tryd.ntmps69
  go_wp2_with fail
  refine HBG.out.mono ?_
  rintro e w1 ⟨rfl, hm1⟩
  dsimp only
  have M1 := Lib.hid hm1
  clear M hm1 bx fx r0 r1 HBG
  have bx := M1.out.cellK 0 rfl
  have row := M1.out.rowO 0 rfl
  have r1 : w1.cell? ⟨gi, 1, none⟩ = some (.int .i64 pt) := row.cellAt 1 (by simp)
  clear row
  go_upto_region 4 with fail
  have q0 : w1.drew.cell? ⟨gi, 1, none⟩ = some (.int .i64 pt) := r1
  go_region_held3 (fun w' => w'.cell? ⟨gi, 1, none⟩ = some (.int .i64 pt))
    (with_reducible assumption)
    ((go_at_call 67
      refine (over_clock M1.out.drew hn hn' hb hb').mono ?_
      rintro e w2 ⟨rfl, hm2⟩
      dsimp only
      rw [HF.out] at hm2 ⊢
      have M2 := Lib.hid hm2
      have row2 := hm2.rowO 0 rfl
      have q2 : w2.cell? ⟨gi, 1, none⟩ = some (.int .i64 pt) := row2.cellAt 1 (by simp)
      clear hm2 row2))
  clear q0 q2 r1 bx
  cases hov : (F == pt)
  · obtain ⟨hx, hy⟩ := HX.out
    rw [hov] at hx hy
    simp only [Bool.false_eq_true, if_false] at hx hy
    subst hx hy
    clear HX
    have bx := M2.out.cellK 0 rfl
    have fx := M2.out.frozenK 0 rfl
    have row := M2.out.rowO 0 rfl
    have r0 : w2.cell? ⟨gi, 0, none⟩ = some (.int .i64 1) := row.cellAt 0 (by simp)
    have hne : gi ≠ g := M2.out.dis _ (List.mem_cons_self ..) _ (List.mem_cons_self ..) _ rfl
    have hne2 : g ≠ gi := Ne.symm hne
    have MS := Lib.hid (M2.out.set (i := 2) (.int .i64 1))
    clear row
    go_upto_region 9 with fail
    generalize World.setCell _ _ _ = w3 at MS ⊢
    have M3 : Hid (Mem w0 w3 (⟨g, t, c4 1 b 1 F⟩ :: Ks) (intR (some ⟨gi, 0, none⟩) ci [1, pt] :: Os)) := MS
    clear MS M2 bx fx r0 hne hne2
    have bx := M3.out.cellK 0 rfl
    have p2 : w3.cell? ⟨g, 0, none⟩ = some (.int .i64 1) := bx 0
    have p3 : w3.cell? ⟨g, 3, none⟩ = some (.int .i64 F) := bx 3
    have q9 : w3.drew.cell? ⟨g, 0, none⟩ = some (.int .i64 1) ∧ w3.drew.cell? ⟨g, 3, none⟩ = some (.int .i64 F) := ⟨p2, p3⟩
    have hlt := (M3.out.ltK 0 rfl).2
    have MF := Lib.hid ((M3.out.alloc 3 #[.int .i64 1, .int .i64 F]).drew.asRow (sz := 1) (n := 2) (xs := ints [1, F]) rfl rfl (by decide))
    clear M3 bx
    go_upto_region 9 with fail
    go_region_held3 (fun w' => w'.cell? ⟨g, 0, none⟩ = some (.int .i64 1) ∧ w'.cell? ⟨g, 3, none⟩ = some (.int .i64 F))
      (first | with_reducible assumption | (refine ⟨?_, ?_⟩ <;> go_simp))
      (fail)
    go_wp2
    go_ret
    exact ⟨_, rfl, MF.out⟩
  · obtain ⟨hx, hy⟩ := HX.out
    rw [hov] at hx hy
    simp only [if_true] at hx hy
    subst hx hy
    clear HX
    have bx := M2.out.cellK 0 rfl
    have fx := M2.out.frozenK 0 rfl
    have row := M2.out.rowO 0 rfl
    have r0 : w2.cell? ⟨gi, 0, none⟩ = some (.int .i64 1) := row.cellAt 0 (by simp)
    have hne : gi ≠ g := M2.out.dis _ (List.mem_cons_self ..) _ (List.mem_cons_self ..) _ rfl
    have hne2 : g ≠ gi := Ne.symm hne
    have MS := Lib.hid (((M2.out.set (i := 0) (.int .i64 0)).set (i := 1) (.int .i64 0)).set (i := 2) (.int .i64 1))
    clear row
    go_upto_region 9 with fail
    generalize World.setCell (World.setCell (World.setCell _ _ _) _ _) _ _ = w3 at MS ⊢
    have M3 : Hid (Mem w0 w3 (⟨g, t, c4 0 0 1 F⟩ :: Ks) (intR (some ⟨gi, 0, none⟩) ci [1, pt] :: Os)) := MS
    clear MS M2 bx fx r0 hne hne2
    have bx := M3.out.cellK 0 rfl
    have p2 : w3.cell? ⟨g, 0, none⟩ = some (.int .i64 0) := bx 0
    have p3 : w3.cell? ⟨g, 3, none⟩ = some (.int .i64 F) := bx 3
    have q9 : w3.drew.cell? ⟨g, 0, none⟩ = some (.int .i64 0) ∧ w3.drew.cell? ⟨g, 3, none⟩ = some (.int .i64 F) := ⟨p2, p3⟩
    have hlt := (M3.out.ltK 0 rfl).2
    have MF := Lib.hid ((M3.out.alloc 3 #[.int .i64 0, .int .i64 F]).drew.asRow (sz := 1) (n := 2) (xs := ints [0, F]) rfl rfl (by decide))
    clear M3 bx
    go_upto_region 9 with fail
    go_region_held3 (fun w' => w'.cell? ⟨g, 0, none⟩ = some (.int .i64 0) ∧ w'.cell? ⟨g, 3, none⟩ = some (.int .i64 F))
      (first | with_reducible assumption | (refine ⟨?_, ?_⟩ <;> go_simp))
      (fail)
    go_wp2
    go_ret
    exact ⟨_, rfl, MF.out⟩

set_option maxRecDepth 100000 in
set_option maxHeartbeats 12800000 in
theorem tp_on {w0 w : World} {Ks : List Box} {Os : List Row} {g gi ci : Nat} {t : TypeId} {b c d pt now : Int} (h : Mem w0 w (⟨g, t, c4 1 b c d⟩ :: Ks) (intR (some ⟨gi, 0, none⟩) ci [1, pt] :: Os)) (hn : 0 ≤ now) (hn' : now ≤ 4294967295) (hb : 0 ≤ b) (hb' : b ≤ 4294967295) (hc : ¬ c = 0) :
    Calls Tryd.prog 69 #[.pointer (some ⟨g, 0, none⟩), .slice (some ⟨gi, 0, none⟩) 2 ci, .int .i64 now] w fun e w' => ∃ g', e = .returned (.slice (some ⟨g', 0, none⟩) 2 2) ∧ Mem w0 w' (⟨g, t, c4 (if farF now b pt == pt then 0 else 1) (if farF now b pt == pt then 0 else b) 1 (farF now b pt)⟩ :: Ks) (intR (some ⟨g', 0, none⟩) 2 [if farF now b pt == pt then 0 else 1, farF now b pt] :: intR (some ⟨gi, 0, none⟩) ci [1, pt] :: Os) := by
  obtain ⟨F, hF⟩ : ∃ F, farF now b pt = F := ⟨_, rfl⟩
  rw [hF]
  have HF := Lib.hid hF
  clear hF
  obtain ⟨y, hy⟩ : ∃ y : Int, (if (F == pt) = true then 0 else b) = y := ⟨_, rfl⟩
  obtain ⟨x, hx⟩ : ∃ x : Int, (if (F == pt) = true then 0 else 1) = x := ⟨_, rfl⟩
  rw [hx, hy]
  have HX := Lib.hid (And.intro hx hy)
  clear hx hy
  have bx := h.cellK 0 rfl
  have fx := h.frozenK 0 rfl
  have row := h.rowO 0 rfl
  have r0 : w.cell? ⟨gi, 0, none⟩ = some (.int .i64 1) := row.cellAt 0 (by simp)
  have r1 : w.cell? ⟨gi, 1, none⟩ = some (.int .i64 pt) := row.cellAt 1 (by simp)
  have M := Lib.hid h
  have hc1 : (c == 0) = false := by simpa using hc
  clear h row
  go_enter Tryd.func69, Tryd.ntmps69
  have row := M.out.rowO 0 rfl
  have r1 : w.cell? ⟨gi, 1, none⟩ = some (.int .i64 pt) := row.cellAt 1 (by simp)
  clear row
  go_upto_region 4 with fail
  have q0 : w.drew.cell? ⟨gi, 1, none⟩ = some (.int .i64 pt) := r1
  go_region_held3 (fun w' => w'.cell? ⟨gi, 1, none⟩ = some (.int .i64 pt))
    (with_reducible assumption)
    ((go_at_call 67
      refine (over_clock M.out.drew hn hn' hb hb').mono ?_
      rintro e w2 ⟨rfl, hm2⟩
      dsimp only
      rw [HF.out] at hm2 ⊢
      have M2 := Lib.hid hm2
      have row2 := hm2.rowO 0 rfl
      have q2 : w2.cell? ⟨gi, 1, none⟩ = some (.int .i64 pt) := row2.cellAt 1 (by simp)
      clear hm2 row2))
  clear fx r0 q0 q2 r1 bx
  cases hov : (F == pt)
  · obtain ⟨hx, hy⟩ := HX.out
    rw [hov] at hx hy
    simp only [Bool.false_eq_true, if_false] at hx hy
    subst hx hy
    clear HX
    have bx := M2.out.cellK 0 rfl
    have fx := M2.out.frozenK 0 rfl
    have row := M2.out.rowO 0 rfl
    have r0 : w2.cell? ⟨gi, 0, none⟩ = some (.int .i64 1) := row.cellAt 0 (by simp)
    have hne : gi ≠ g := M2.out.dis _ (List.mem_cons_self ..) _ (List.mem_cons_self ..) _ rfl
    have hne2 : g ≠ gi := Ne.symm hne
    have MS := Lib.hid (M2.out.set (i := 2) (.int .i64 1))
    clear row
    go_upto_region 9 with fail
    generalize World.setCell _ _ _ = w3 at MS ⊢
    have M3 : Hid (Mem w0 w3 (⟨g, t, c4 1 b 1 F⟩ :: Ks) (intR (some ⟨gi, 0, none⟩) ci [1, pt] :: Os)) := MS
    clear MS M2 bx fx r0 hne hne2
    have bx := M3.out.cellK 0 rfl
    have p2 : w3.cell? ⟨g, 0, none⟩ = some (.int .i64 1) := bx 0
    have p3 : w3.cell? ⟨g, 3, none⟩ = some (.int .i64 F) := bx 3
    have q9 : w3.drew.cell? ⟨g, 0, none⟩ = some (.int .i64 1) ∧ w3.drew.cell? ⟨g, 3, none⟩ = some (.int .i64 F) := ⟨p2, p3⟩
    have hlt := (M3.out.ltK 0 rfl).2
    have MF := Lib.hid ((M3.out.alloc 3 #[.int .i64 1, .int .i64 F]).drew.asRow (sz := 1) (n := 2) (xs := ints [1, F]) rfl rfl (by decide))
    clear M3 bx
    go_upto_region 9 with fail
    go_region_held3 (fun w' => w'.cell? ⟨g, 0, none⟩ = some (.int .i64 1) ∧ w'.cell? ⟨g, 3, none⟩ = some (.int .i64 F))
      (first | with_reducible assumption | (refine ⟨?_, ?_⟩ <;> go_simp))
      (fail)
    go_wp2
    go_ret
    exact ⟨_, rfl, MF.out⟩
  · obtain ⟨hx, hy⟩ := HX.out
    rw [hov] at hx hy
    simp only [if_true] at hx hy
    subst hx hy
    clear HX
    have bx := M2.out.cellK 0 rfl
    have fx := M2.out.frozenK 0 rfl
    have row := M2.out.rowO 0 rfl
    have r0 : w2.cell? ⟨gi, 0, none⟩ = some (.int .i64 1) := row.cellAt 0 (by simp)
    have hne : gi ≠ g := M2.out.dis _ (List.mem_cons_self ..) _ (List.mem_cons_self ..) _ rfl
    have hne2 : g ≠ gi := Ne.symm hne
    have MS := Lib.hid (((M2.out.set (i := 0) (.int .i64 0)).set (i := 1) (.int .i64 0)).set (i := 2) (.int .i64 1))
    clear row
    go_upto_region 9 with fail
    generalize World.setCell (World.setCell (World.setCell _ _ _) _ _) _ _ = w3 at MS ⊢
    have M3 : Hid (Mem w0 w3 (⟨g, t, c4 0 0 1 F⟩ :: Ks) (intR (some ⟨gi, 0, none⟩) ci [1, pt] :: Os)) := MS
    clear MS M2 bx fx r0 hne hne2
    have bx := M3.out.cellK 0 rfl
    have p2 : w3.cell? ⟨g, 0, none⟩ = some (.int .i64 0) := bx 0
    have p3 : w3.cell? ⟨g, 3, none⟩ = some (.int .i64 F) := bx 3
    have q9 : w3.drew.cell? ⟨g, 0, none⟩ = some (.int .i64 0) ∧ w3.drew.cell? ⟨g, 3, none⟩ = some (.int .i64 F) := ⟨p2, p3⟩
    have hlt := (M3.out.ltK 0 rfl).2
    have MF := Lib.hid ((M3.out.alloc 3 #[.int .i64 0, .int .i64 F]).drew.asRow (sz := 1) (n := 2) (xs := ints [0, F]) rfl rfl (by decide))
    clear M3 bx
    go_upto_region 9 with fail
    go_region_held3 (fun w' => w'.cell? ⟨g, 0, none⟩ = some (.int .i64 0) ∧ w'.cell? ⟨g, 3, none⟩ = some (.int .i64 F))
      (first | with_reducible assumption | (refine ⟨?_, ?_⟩ <;> go_simp))
      (fail)
    go_wp2
    go_ret
    exact ⟨_, rfl, MF.out⟩

set_option maxRecDepth 100000 in
set_option maxHeartbeats 12800000 in
theorem tp_off {w0 w : World} {Ks : List Box} {Os : List Row} {g gi ci : Nat} {t : TypeId} {b c d pt now : Int} (h : Mem w0 w (⟨g, t, c4 0 b c d⟩ :: Ks) (intR (some ⟨gi, 0, none⟩) ci [1, pt] :: Os)) (hc : ¬ c = 0) :
    Calls Tryd.prog 69 #[.pointer (some ⟨g, 0, none⟩), .slice (some ⟨gi, 0, none⟩) 2 ci, .int .i64 now] w fun e w' => ∃ g', e = .returned (.slice (some ⟨g', 0, none⟩) 2 2) ∧ Mem w0 w' (⟨g, t, c4 0 b 1 d⟩ :: Ks) (intR (some ⟨g', 0, none⟩) 2 [0, d] :: intR (some ⟨gi, 0, none⟩) ci [1, pt] :: Os) := by
  have bx := h.cellK 0 rfl
  have fx := h.frozenK 0 rfl
  have row := h.rowO 0 rfl
  have r0 : w.cell? ⟨gi, 0, none⟩ = some (.int .i64 1) := row.cellAt 0 (by simp)
  have r1 : w.cell? ⟨gi, 1, none⟩ = some (.int .i64 pt) := row.cellAt 1 (by simp)
  have M := Lib.hid h
  have hc1 : (c == 0) = false := by simpa using hc
  clear h row
  go_enter Tryd.func69, Tryd.ntmps69
  have hne : gi ≠ g := M.out.dis _ (List.mem_cons_self ..) _ (List.mem_cons_self ..) _ rfl
  have hne2 : g ≠ gi := Ne.symm hne
  have MS := Lib.hid (M.out.set (i := 2) (.int .i64 1))
  go_upto_region 9 with fail
  generalize World.setCell _ _ _ = w3 at MS ⊢
  have M3 : Hid (Mem w0 w3 (⟨g, t, c4 0 b 1 d⟩ :: Ks) (intR (some ⟨gi, 0, none⟩) ci [1, pt] :: Os)) := MS
  clear MS M bx fx r0 r1 hne hne2
  have bx := M3.out.cellK 0 rfl
  have p2 : w3.cell? ⟨g, 0, none⟩ = some (.int .i64 0) := bx 0
  have p3 : w3.cell? ⟨g, 3, none⟩ = some (.int .i64 d) := bx 3
  have q9 : w3.drew.cell? ⟨g, 0, none⟩ = some (.int .i64 0) ∧ w3.drew.cell? ⟨g, 3, none⟩ = some (.int .i64 d) := ⟨p2, p3⟩
  have hlt := (M3.out.ltK 0 rfl).2
  have MF := Lib.hid ((M3.out.alloc 3 #[.int .i64 0, .int .i64 d]).drew.asRow (sz := 1) (n := 2) (xs := ints [0, d]) rfl rfl (by decide))
  clear M3 bx
  go_upto_region 9 with fail
  go_region_held3 (fun w' => w'.cell? ⟨g, 0, none⟩ = some (.int .i64 0) ∧ w'.cell? ⟨g, 3, none⟩ = some (.int .i64 d))
    (first | with_reducible assumption | (refine ⟨?_, ?_⟩ <;> go_simp))
    (fail)
  go_wp2
  go_ret
  exact ⟨_, rfl, MF.out⟩

set_option maxRecDepth 100000 in
set_option maxHeartbeats 12800000 in
theorem tp_low {w0 w : World} {Ks : List Box} {Os : List Row} {g gi ci : Nat} {t : TypeId} {b c d pt now : Int} (h : Mem w0 w (⟨g, t, c4 1 b c d⟩ :: Ks) (intR (some ⟨gi, 0, none⟩) ci [0, pt] :: Os)) (hn : 0 ≤ now) (hn' : now ≤ 4294967295) (hb : 0 ≤ b) (hb' : b ≤ 4294967295)  :
    Calls Tryd.prog 69 #[.pointer (some ⟨g, 0, none⟩), .slice (some ⟨gi, 0, none⟩) 2 ci, .int .i64 now] w fun e w' => ∃ g', e = .returned (.slice (some ⟨g', 0, none⟩) 2 2) ∧ Mem w0 w' (⟨g, t, c4 (if farF now b pt == pt then 0 else 1) (if farF now b pt == pt then 0 else b) 0 (farF now b pt)⟩ :: Ks) (intR (some ⟨g', 0, none⟩) 2 [if farF now b pt == pt then 0 else 1, farF now b pt] :: intR (some ⟨gi, 0, none⟩) ci [0, pt] :: Os) := by
  obtain ⟨F, hF⟩ : ∃ F, farF now b pt = F := ⟨_, rfl⟩
  rw [hF]
  have HF := Lib.hid hF
  clear hF
  obtain ⟨y, hy⟩ : ∃ y : Int, (if (F == pt) = true then 0 else b) = y := ⟨_, rfl⟩
  obtain ⟨x, hx⟩ : ∃ x : Int, (if (F == pt) = true then 0 else 1) = x := ⟨_, rfl⟩
  rw [hx, hy]
  have HX := Lib.hid (And.intro hx hy)
  clear hx hy
  have bx := h.cellK 0 rfl
  have fx := h.frozenK 0 rfl
  have row := h.rowO 0 rfl
  have r0 : w.cell? ⟨gi, 0, none⟩ = some (.int .i64 0) := row.cellAt 0 (by simp)
  have r1 : w.cell? ⟨gi, 1, none⟩ = some (.int .i64 pt) := row.cellAt 1 (by simp)
  have M := Lib.hid h
  clear h row
  go_enter Tryd.func69, Tryd.ntmps69
  have row := M.out.rowO 0 rfl
  have r1 : w.cell? ⟨gi, 1, none⟩ = some (.int .i64 pt) := row.cellAt 1 (by simp)
  clear row
  go_upto_region 4 with fail
  have q0 : w.drew.cell? ⟨gi, 1, none⟩ = some (.int .i64 pt) := r1
  go_region_held3 (fun w' => w'.cell? ⟨gi, 1, none⟩ = some (.int .i64 pt))
    (with_reducible assumption)
    ((go_at_call 67
      refine (over_clock M.out.drew hn hn' hb hb').mono ?_
      rintro e w2 ⟨rfl, hm2⟩
      dsimp only
      rw [HF.out] at hm2 ⊢
      have M2 := Lib.hid hm2
      have row2 := hm2.rowO 0 rfl
      have q2 : w2.cell? ⟨gi, 1, none⟩ = some (.int .i64 pt) := row2.cellAt 1 (by simp)
      clear hm2 row2))
  clear fx r0 q0 q2 r1 bx
  cases hov : (F == pt)
  · obtain ⟨hx, hy⟩ := HX.out
    rw [hov] at hx hy
    simp only [Bool.false_eq_true, if_false] at hx hy
    subst hx hy
    clear HX
    have bx := M2.out.cellK 0 rfl
    have fx := M2.out.frozenK 0 rfl
    have row := M2.out.rowO 0 rfl
    have r0 : w2.cell? ⟨gi, 0, none⟩ = some (.int .i64 0) := row.cellAt 0 (by simp)
    have hne : gi ≠ g := M2.out.dis _ (List.mem_cons_self ..) _ (List.mem_cons_self ..) _ rfl
    have hne2 : g ≠ gi := Ne.symm hne
    have MS := Lib.hid (M2.out.set (i := 2) (.int .i64 0))
    clear row
    go_upto_region 9 with fail
    generalize World.setCell _ _ _ = w3 at MS ⊢
    have M3 : Hid (Mem w0 w3 (⟨g, t, c4 1 b 0 F⟩ :: Ks) (intR (some ⟨gi, 0, none⟩) ci [0, pt] :: Os)) := MS
    clear MS M2 bx fx r0 hne hne2
    have bx := M3.out.cellK 0 rfl
    have p2 : w3.cell? ⟨g, 0, none⟩ = some (.int .i64 1) := bx 0
    have p3 : w3.cell? ⟨g, 3, none⟩ = some (.int .i64 F) := bx 3
    have q9 : w3.drew.cell? ⟨g, 0, none⟩ = some (.int .i64 1) ∧ w3.drew.cell? ⟨g, 3, none⟩ = some (.int .i64 F) := ⟨p2, p3⟩
    have hlt := (M3.out.ltK 0 rfl).2
    have MF := Lib.hid ((M3.out.alloc 3 #[.int .i64 1, .int .i64 F]).drew.asRow (sz := 1) (n := 2) (xs := ints [1, F]) rfl rfl (by decide))
    clear M3 bx
    go_upto_region 9 with fail
    go_region_held3 (fun w' => w'.cell? ⟨g, 0, none⟩ = some (.int .i64 1) ∧ w'.cell? ⟨g, 3, none⟩ = some (.int .i64 F))
      (first | with_reducible assumption | (refine ⟨?_, ?_⟩ <;> go_simp))
      (fail)
    go_wp2
    go_ret
    exact ⟨_, rfl, MF.out⟩
  · obtain ⟨hx, hy⟩ := HX.out
    rw [hov] at hx hy
    simp only [if_true] at hx hy
    subst hx hy
    clear HX
    have bx := M2.out.cellK 0 rfl
    have fx := M2.out.frozenK 0 rfl
    have row := M2.out.rowO 0 rfl
    have r0 : w2.cell? ⟨gi, 0, none⟩ = some (.int .i64 0) := row.cellAt 0 (by simp)
    have hne : gi ≠ g := M2.out.dis _ (List.mem_cons_self ..) _ (List.mem_cons_self ..) _ rfl
    have hne2 : g ≠ gi := Ne.symm hne
    have MS := Lib.hid (((M2.out.set (i := 0) (.int .i64 0)).set (i := 1) (.int .i64 0)).set (i := 2) (.int .i64 0))
    clear row
    go_upto_region 9 with fail
    generalize World.setCell (World.setCell (World.setCell _ _ _) _ _) _ _ = w3 at MS ⊢
    have M3 : Hid (Mem w0 w3 (⟨g, t, c4 0 0 0 F⟩ :: Ks) (intR (some ⟨gi, 0, none⟩) ci [0, pt] :: Os)) := MS
    clear MS M2 bx fx r0 hne hne2
    have bx := M3.out.cellK 0 rfl
    have p2 : w3.cell? ⟨g, 0, none⟩ = some (.int .i64 0) := bx 0
    have p3 : w3.cell? ⟨g, 3, none⟩ = some (.int .i64 F) := bx 3
    have q9 : w3.drew.cell? ⟨g, 0, none⟩ = some (.int .i64 0) ∧ w3.drew.cell? ⟨g, 3, none⟩ = some (.int .i64 F) := ⟨p2, p3⟩
    have hlt := (M3.out.ltK 0 rfl).2
    have MF := Lib.hid ((M3.out.alloc 3 #[.int .i64 0, .int .i64 F]).drew.asRow (sz := 1) (n := 2) (xs := ints [0, F]) rfl rfl (by decide))
    clear M3 bx
    go_upto_region 9 with fail
    go_region_held3 (fun w' => w'.cell? ⟨g, 0, none⟩ = some (.int .i64 0) ∧ w'.cell? ⟨g, 3, none⟩ = some (.int .i64 F))
      (first | with_reducible assumption | (refine ⟨?_, ?_⟩ <;> go_simp))
      (fail)
    go_wp2
    go_ret
    exact ⟨_, rfl, MF.out⟩

set_option maxRecDepth 100000 in
set_option maxHeartbeats 12800000 in
theorem tp_idle {w0 w : World} {Ks : List Box} {Os : List Row} {g gi ci : Nat} {t : TypeId} {b c d pt now : Int} (h : Mem w0 w (⟨g, t, c4 0 b c d⟩ :: Ks) (intR (some ⟨gi, 0, none⟩) ci [0, pt] :: Os))  :
    Calls Tryd.prog 69 #[.pointer (some ⟨g, 0, none⟩), .slice (some ⟨gi, 0, none⟩) 2 ci, .int .i64 now] w fun e w' => ∃ g', e = .returned (.slice (some ⟨g', 0, none⟩) 2 2) ∧ Mem w0 w' (⟨g, t, c4 0 b 0 0⟩ :: Ks) (intR (some ⟨g', 0, none⟩) 2 [0, 0] :: intR (some ⟨gi, 0, none⟩) ci [0, pt] :: Os) := by
  have bx := h.cellK 0 rfl
  have fx := h.frozenK 0 rfl
  have row := h.rowO 0 rfl
  have r0 : w.cell? ⟨gi, 0, none⟩ = some (.int .i64 0) := row.cellAt 0 (by simp)
  have r1 : w.cell? ⟨gi, 1, none⟩ = some (.int .i64 pt) := row.cellAt 1 (by simp)
  have M := Lib.hid h
  clear h row
  go_enter Tryd.func69, Tryd.ntmps69
  have hne : gi ≠ g := M.out.dis _ (List.mem_cons_self ..) _ (List.mem_cons_self ..) _ rfl
  have hne2 : g ≠ gi := Ne.symm hne
  have MS := Lib.hid ((M.out.set (i := 3) (.int .i64 0)).set (i := 2) (.int .i64 0))
  go_upto_region 9 with fail
  generalize World.setCell (World.setCell _ _ _) _ _ = w3 at MS ⊢
  have M3 : Hid (Mem w0 w3 (⟨g, t, c4 0 b 0 0⟩ :: Ks) (intR (some ⟨gi, 0, none⟩) ci [0, pt] :: Os)) := MS
  clear MS M bx fx r0 r1 hne hne2
  have bx := M3.out.cellK 0 rfl
  have p2 : w3.cell? ⟨g, 0, none⟩ = some (.int .i64 0) := bx 0
  have p3 : w3.cell? ⟨g, 3, none⟩ = some (.int .i64 0) := bx 3
  have q9 : w3.drew.cell? ⟨g, 0, none⟩ = some (.int .i64 0) ∧ w3.drew.cell? ⟨g, 3, none⟩ = some (.int .i64 0) := ⟨p2, p3⟩
  have hlt := (M3.out.ltK 0 rfl).2
  have MF := Lib.hid ((M3.out.alloc 3 #[.int .i64 0, .int .i64 0]).drew.asRow (sz := 1) (n := 2) (xs := ints [0, 0]) rfl rfl (by decide))
  clear M3 bx
  go_upto_region 9 with fail
  go_region_held3 (fun w' => w'.cell? ⟨g, 0, none⟩ = some (.int .i64 0) ∧ w'.cell? ⟨g, 3, none⟩ = some (.int .i64 0))
    (first | with_reducible assumption | (refine ⟨?_, ?_⟩ <;> go_simp))
    (fail)
  go_wp2
  go_ret
  exact ⟨_, rfl, MF.out⟩

end Go.Proofs.YthgjjclmepfbpaaDoor.Blk
