/-
  The steps of tof and tp. Conditions: the box and the row are the call's own; times lie within 32 bits.
-/
import Derived.Test.YthgjjclmepfbpaaDoorBlkA
namespace Go.Proofs.YthgjjclmepfbpaaDoor.Blk
open Go.RowKit Go.Proofs.YthgjjclmepfbpaaDoor.W Go.Proofs.YthgjjclmepfbpaaDoor.Ints Go.Proofs.YthgjjclmepfbpaaDoor.Cell Go.Proofs.YthgjjclmepfbpaaDoor.Num

set_option maxRecDepth 100000 in
set_option maxHeartbeats 12800000 in
theorem tof_in {w0 w : World} {Ks : List Box} {Os : List Row} {g gi ci : Nat} {t : TypeId} {a b c d pt now : Int} (h : Mem w0 w (⟨g, t, c4 a b c d⟩ :: Ks) (intR (some ⟨gi, 0, none⟩) ci [1, pt] :: Os))  :
    Calls Tryd.prog 68 #[.pointer (some ⟨g, 0, none⟩), .slice (some ⟨gi, 0, none⟩) 2 ci, .int .i64 now] w fun e w' => ∃ g', e = .returned (.slice (some ⟨g', 0, none⟩) 2 2) ∧ Mem w0 w' (⟨g, t, c4 0 0 1 0⟩ :: Ks) (intR (some ⟨g', 0, none⟩) 2 [1, 0] :: intR (some ⟨gi, 0, none⟩) ci [1, pt] :: Os) := by
  have bx := h.cellK 0 rfl
  have fx := h.frozenK 0 rfl
  have row := h.rowO 0 rfl
  have r0 : w.cell? ⟨gi, 0, none⟩ = some (.int .i64 1) := row.cellAt 0 (by simp)
  have r1 : w.cell? ⟨gi, 1, none⟩ = some (.int .i64 pt) := row.cellAt 1 (by simp)
  have M := Lib.hid h
  have MS := Lib.hid ((((h.set (i := 0) (.int .i64 0)).set (i := 1) (.int .i64 0)).set (i := 2) (.int .i64 1)).set (i := 3) (.int .i64 0))
  clear h row
  go_enter Tryd.func68, Tryd.ntmps68
  go_upto_region 7 with fail
  generalize World.setCell (World.setCell (World.setCell (World.setCell _ _ _) _ _) _ _) _ _ = w3 at MS ⊢
  have M3 : Hid (Mem w0 w3 (⟨g, t, c4 0 0 1 0⟩ :: Ks) (intR (some ⟨gi, 0, none⟩) ci [1, pt] :: Os)) := MS
  clear MS M bx fx r0 r1
  have bx := M3.out.cellK 0 rfl
  have p2 : w3.cell? ⟨g, 2, none⟩ = some (.int .i64 1) := bx 2
  have p3 : w3.cell? ⟨g, 3, none⟩ = some (.int .i64 0) := bx 3
  have q9 : w3.drew.cell? ⟨g, 2, none⟩ = some (.int .i64 1) ∧ w3.drew.cell? ⟨g, 3, none⟩ = some (.int .i64 0) := ⟨p2, p3⟩
  have hlt := (M3.out.ltK 0 rfl).2
  have MF := Lib.hid ((M3.out.alloc 3 #[.int .i64 1, .int .i64 0]).drew.asRow (sz := 1) (n := 2) (xs := ints [1, 0]) rfl rfl (by decide))
  clear M3 bx
  go_upto_region 7 with fail
  go_region_held3 (fun w' => w'.cell? ⟨g, 2, none⟩ = some (.int .i64 1) ∧ w'.cell? ⟨g, 3, none⟩ = some (.int .i64 0))
    (first | with_reducible assumption | (refine ⟨?_, ?_⟩ <;> go_simp))
    (fail)
  go_wp2
  go_ret
  exact ⟨_, rfl, MF.out⟩

set_option maxRecDepth 100000 in
set_option maxHeartbeats 12800000 in
theorem tof_done {w0 w : World} {Ks : List Box} {Os : List Row} {g gi ci : Nat} {t : TypeId} {a b c d pt now : Int} (h : Mem w0 w (⟨g, t, c4 a b c d⟩ :: Ks) (intR (some ⟨gi, 0, none⟩) ci [0, pt] :: Os)) (hc : ¬ c = 1) :
    Calls Tryd.prog 68 #[.pointer (some ⟨g, 0, none⟩), .slice (some ⟨gi, 0, none⟩) 2 ci, .int .i64 now] w fun e w' => ∃ g', e = .returned (.slice (some ⟨g', 0, none⟩) 2 2) ∧ Mem w0 w' (⟨g, t, c4 a b c d⟩ :: Ks) (intR (some ⟨g', 0, none⟩) 2 [c, d] :: intR (some ⟨gi, 0, none⟩) ci [0, pt] :: Os) := by
  have bx := h.cellK 0 rfl
  have fx := h.frozenK 0 rfl
  have row := h.rowO 0 rfl
  have r0 : w.cell? ⟨gi, 0, none⟩ = some (.int .i64 0) := row.cellAt 0 (by simp)
  have r1 : w.cell? ⟨gi, 1, none⟩ = some (.int .i64 pt) := row.cellAt 1 (by simp)
  have M := Lib.hid h
  have hc1 : (c == 1) = false := by simpa using hc
  clear h row hc
  go_enter Tryd.func68, Tryd.ntmps68
  go_upto_region 7 with fail
  clear bx fx r0 r1
  have bx := M.out.cellK 0 rfl
  have p2 : w.cell? ⟨g, 2, none⟩ = some (.int .i64 c) := bx 2
  have p3 : w.cell? ⟨g, 3, none⟩ = some (.int .i64 d) := bx 3
  have q9 : w.drew.cell? ⟨g, 2, none⟩ = some (.int .i64 c) ∧ w.drew.cell? ⟨g, 3, none⟩ = some (.int .i64 d) := ⟨p2, p3⟩
  have hlt := (M.out.ltK 0 rfl).2
  have MF := Lib.hid ((M.out.alloc 3 #[.int .i64 c, .int .i64 d]).drew.asRow (sz := 1) (n := 2) (xs := ints [c, d]) rfl rfl (by decide))
  clear M bx
  go_upto_region 7 with fail
  go_region_held3 (fun w' => w'.cell? ⟨g, 2, none⟩ = some (.int .i64 c) ∧ w'.cell? ⟨g, 3, none⟩ = some (.int .i64 d))
    (first | with_reducible assumption | (refine ⟨?_, ?_⟩ <;> go_simp))
    (fail)
  go_wp2
  go_ret
  exact ⟨_, rfl, MF.out⟩

set_option maxRecDepth 100000 in
set_option maxHeartbeats 12800000 in
theorem tof_new {w0 w : World} {Ks : List Box} {Os : List Row} {g gi ci : Nat} {t : TypeId} {b c d pt now : Int} (h : Mem w0 w (⟨g, t, c4 0 b c d⟩ :: Ks) (intR (some ⟨gi, 0, none⟩) ci [0, pt] :: Os)) (hn : 0 ≤ now) (hn' : now ≤ 4294967295) (hc : c = 1) :
    Calls Tryd.prog 68 #[.pointer (some ⟨g, 0, none⟩), .slice (some ⟨gi, 0, none⟩) 2 ci, .int .i64 now] w fun e w' => ∃ g', e = .returned (.slice (some ⟨g', 0, none⟩) 2 2) ∧ Mem w0 w' (⟨g, t, c4 (if farF now now pt == pt then 0 else 1) (if farF now now pt == pt then 0 else now) (if farF now now pt == pt then 0 else 1) (farF now now pt)⟩ :: Ks) (intR (some ⟨g', 0, none⟩) 2 [if farF now now pt == pt then 0 else 1, farF now now pt] :: intR (some ⟨gi, 0, none⟩) ci [0, pt] :: Os) := by
  subst hc
  obtain ⟨F, hF⟩ : ∃ F, farF now now pt = F := ⟨_, rfl⟩
  rw [hF]
  have HF := Lib.hid hF
  clear hF

  obtain ⟨y, hy⟩ : ∃ y : Int, (if (F == pt) = true then 0 else now) = y := ⟨_, rfl⟩
  obtain ⟨f, hf⟩ : ∃ f : Int, (if (F == pt) = true then 0 else 1) = f := ⟨_, rfl⟩
  have hx : (0 : Int) = 0 := rfl
  rw [hf, hy]
  have HX := Lib.hid (And.intro hx (And.intro hy hf))
  clear hx hy hf
  have bx := h.cellK 0 rfl
  have fx := h.frozenK 0 rfl
  have row := h.rowO 0 rfl
  have r0 : w.cell? ⟨gi, 0, none⟩ = some (.int .i64 0) := row.cellAt 0 (by simp)
  have r1 : w.cell? ⟨gi, 1, none⟩ = some (.int .i64 pt) := row.cellAt 1 (by simp)
  have M := Lib.hid h
  have hbg := begin_clock (now := now) M.out
  rw [if_pos rfl, if_pos rfl] at hbg
  have HBG := Lib.hid hbg
  clear h row hbg
  go_enter Tryd.func68, Tryd.ntmps68
  go_wp2_with fail
  refine HBG.out.mono ?_
  rintro e w1 ⟨rfl, hm1⟩
  dsimp only
  have M1 := Lib.hid hm1
  clear M hm1 bx fx r0 r1 HBG
  have row := M1.out.rowO 0 rfl
  have r1 : w1.cell? ⟨gi, 1, none⟩ = some (.int .i64 pt) := row.cellAt 1 (by simp)
  clear row
  go_upto_region 5 with fail
  have q0 : w1.drew.cell? ⟨gi, 1, none⟩ = some (.int .i64 pt) := r1
  go_region_held3 (fun w' => w'.cell? ⟨gi, 1, none⟩ = some (.int .i64 pt))
    (with_reducible assumption)
    ((go_at_call 67
      refine (over_clock M1.out.drew hn hn' hn hn').mono ?_
      rintro e w2 ⟨rfl, hm2⟩
      dsimp only
      rw [HF.out] at hm2 ⊢
      have M2 := Lib.hid hm2
      have row2 := hm2.rowO 0 rfl
      have q2 : w2.cell? ⟨gi, 1, none⟩ = some (.int .i64 pt) := row2.cellAt 1 (by simp)
      clear hm2 row2))
  clear q0 q2 r1 M1
  cases hov : (F == pt)
  · obtain ⟨hx, hy, hf⟩ := HX.out
    rw [hov] at hy hf
    simp only [Bool.false_eq_true, if_false] at hy hf
    subst hy hf
    clear HX
    have M3 := M2
    clear M2
    have bx := M3.out.cellK 0 rfl
    have p2 : w2.cell? ⟨g, 2, none⟩ = some (.int .i64 1) := bx 2
    have p3 : w2.cell? ⟨g, 3, none⟩ = some (.int .i64 F) := bx 3
    have q9 : w2.drew.cell? ⟨g, 2, none⟩ = some (.int .i64 1) ∧ w2.drew.cell? ⟨g, 3, none⟩ = some (.int .i64 F) := ⟨p2, p3⟩
    have hlt := (M3.out.ltK 0 rfl).2
    have MF := Lib.hid ((M3.out.alloc 3 #[.int .i64 1, .int .i64 F]).drew.asRow (sz := 1) (n := 2) (xs := ints [1, F]) rfl rfl (by decide))
    clear M3 bx
    go_upto_region 7 with fail
    go_region_held3 (fun w' => w'.cell? ⟨g, 2, none⟩ = some (.int .i64 1) ∧ w'.cell? ⟨g, 3, none⟩ = some (.int .i64 F))
      (first | with_reducible assumption | (refine ⟨?_, ?_⟩ <;> go_simp))
      (fail)
    go_wp2
    go_ret
    exact ⟨_, rfl, MF.out⟩
  · obtain ⟨hx, hy, hf⟩ := HX.out
    rw [hov] at hy hf
    simp only [if_true] at hy hf
    subst hy hf
    clear HX
    have bx := M2.out.cellK 0 rfl
    have fx := M2.out.frozenK 0 rfl
    have MS := Lib.hid (((M2.out.set (i := 0) (.int .i64 0)).set (i := 1) (.int .i64 0)).set (i := 2) (.int .i64 0))
    go_upto_region 7 with fail
    generalize World.setCell (World.setCell (World.setCell _ _ _) _ _) _ _ = w3 at MS ⊢
    have M3 : Hid (Mem w0 w3 (⟨g, t, c4 0 0 0 F⟩ :: Ks) (intR (some ⟨gi, 0, none⟩) ci [0, pt] :: Os)) := MS
    clear MS M2 bx fx
    have bx := M3.out.cellK 0 rfl
    have p2 : w3.cell? ⟨g, 2, none⟩ = some (.int .i64 0) := bx 2
    have p3 : w3.cell? ⟨g, 3, none⟩ = some (.int .i64 F) := bx 3
    have q9 : w3.drew.cell? ⟨g, 2, none⟩ = some (.int .i64 0) ∧ w3.drew.cell? ⟨g, 3, none⟩ = some (.int .i64 F) := ⟨p2, p3⟩
    have hlt := (M3.out.ltK 0 rfl).2
    have MF := Lib.hid ((M3.out.alloc 3 #[.int .i64 0, .int .i64 F]).drew.asRow (sz := 1) (n := 2) (xs := ints [0, F]) rfl rfl (by decide))
    clear M3 bx
    go_upto_region 7 with fail
    go_region_held3 (fun w' => w'.cell? ⟨g, 2, none⟩ = some (.int .i64 0) ∧ w'.cell? ⟨g, 3, none⟩ = some (.int .i64 F))
      (first | with_reducible assumption | (refine ⟨?_, ?_⟩ <;> go_simp))
      (fail)
    go_wp2
    go_ret
    exact ⟨_, rfl, MF.out⟩

set_option maxRecDepth 100000 in
set_option maxHeartbeats 12800000 in
theorem tof_on {w0 w : World} {Ks : List Box} {Os : List Row} {g gi ci : Nat} {t : TypeId} {a b c d pt now : Int} (h : Mem w0 w (⟨g, t, c4 a b c d⟩ :: Ks) (intR (some ⟨gi, 0, none⟩) ci [0, pt] :: Os)) (ha : ¬ a = 0) (hn : 0 ≤ now) (hn' : now ≤ 4294967295) (hb : 0 ≤ b) (hb' : b ≤ 4294967295) (hc : c = 1) :
    Calls Tryd.prog 68 #[.pointer (some ⟨g, 0, none⟩), .slice (some ⟨gi, 0, none⟩) 2 ci, .int .i64 now] w fun e w' => ∃ g', e = .returned (.slice (some ⟨g', 0, none⟩) 2 2) ∧ Mem w0 w' (⟨g, t, c4 (if farF now b pt == pt then 0 else a) (if farF now b pt == pt then 0 else b) (if farF now b pt == pt then 0 else 1) (farF now b pt)⟩ :: Ks) (intR (some ⟨g', 0, none⟩) 2 [if farF now b pt == pt then 0 else 1, farF now b pt] :: intR (some ⟨gi, 0, none⟩) ci [0, pt] :: Os) := by
  subst hc
  obtain ⟨F, hF⟩ : ∃ F, farF now b pt = F := ⟨_, rfl⟩
  rw [hF]
  have HF := Lib.hid hF
  clear hF
  obtain ⟨x, hx⟩ : ∃ x : Int, (if (F == pt) = true then 0 else a) = x := ⟨_, rfl⟩
  obtain ⟨y, hy⟩ : ∃ y : Int, (if (F == pt) = true then 0 else b) = y := ⟨_, rfl⟩
  obtain ⟨f, hf⟩ : ∃ f : Int, (if (F == pt) = true then 0 else 1) = f := ⟨_, rfl⟩
  rw [hx, hy, hf]
  have HX := Lib.hid (And.intro hx (And.intro hy hf))
  clear hx hy hf
  have bx := h.cellK 0 rfl
  have fx := h.frozenK 0 rfl
  have row := h.rowO 0 rfl
  have r0 : w.cell? ⟨gi, 0, none⟩ = some (.int .i64 0) := row.cellAt 0 (by simp)
  have r1 : w.cell? ⟨gi, 1, none⟩ = some (.int .i64 pt) := row.cellAt 1 (by simp)
  have M := Lib.hid h
  have hbg := begin_clock (now := now) M.out
  rw [if_neg ha, if_neg ha] at hbg
  have HBG := Lib.hid hbg
  clear h row hbg
  go_enter Tryd.func68, Tryd.ntmps68
  go_wp2_with fail
  refine HBG.out.mono ?_
  rintro e w1 ⟨rfl, hm1⟩
  dsimp only
  have M1 := Lib.hid hm1
  clear M hm1 bx fx r0 r1 HBG
  have row := M1.out.rowO 0 rfl
  have r1 : w1.cell? ⟨gi, 1, none⟩ = some (.int .i64 pt) := row.cellAt 1 (by simp)
  clear row
  go_upto_region 5 with fail
  have q0 : w1.drew.cell? ⟨gi, 1, none⟩ = some (.int .i64 pt) := r1
  go_region_held3 (fun w' => w'.cell? ⟨gi, 1, none⟩ = some (.int .i64 pt))
    (with_reducible assumption)
    ((go_at_call 67
      refine (over_clock M1.out.drew hn hn' hb hb').mono ?_
      rintro e w2 ⟨rfl, hm2⟩
      dsimp only
      rw [HF.out] at hm2 ⊢
      have M2 := Lib.hid hm2
      have row2 := hm2.rowO 0 rfl
      have q2 : w2.cell? ⟨gi, 1, none⟩ = some (.int .i64 pt) := row2.cellAt 1 (by simp)
      clear hm2 row2))
  clear q0 q2 r1 M1
  cases hov : (F == pt)
  · obtain ⟨hx, hy, hf⟩ := HX.out
    rw [hov] at hx hy hf
    simp only [Bool.false_eq_true, if_false] at hx hy hf
    subst hx hy hf
    clear HX
    have M3 := M2
    clear M2
    have bx := M3.out.cellK 0 rfl
    have p2 : w2.cell? ⟨g, 2, none⟩ = some (.int .i64 1) := bx 2
    have p3 : w2.cell? ⟨g, 3, none⟩ = some (.int .i64 F) := bx 3
    have q9 : w2.drew.cell? ⟨g, 2, none⟩ = some (.int .i64 1) ∧ w2.drew.cell? ⟨g, 3, none⟩ = some (.int .i64 F) := ⟨p2, p3⟩
    have hlt := (M3.out.ltK 0 rfl).2
    have MF := Lib.hid ((M3.out.alloc 3 #[.int .i64 1, .int .i64 F]).drew.asRow (sz := 1) (n := 2) (xs := ints [1, F]) rfl rfl (by decide))
    clear M3 bx
    go_upto_region 7 with fail
    go_region_held3 (fun w' => w'.cell? ⟨g, 2, none⟩ = some (.int .i64 1) ∧ w'.cell? ⟨g, 3, none⟩ = some (.int .i64 F))
      (first | with_reducible assumption | (refine ⟨?_, ?_⟩ <;> go_simp))
      (fail)
    go_wp2
    go_ret
    exact ⟨_, rfl, MF.out⟩
  · obtain ⟨hx, hy, hf⟩ := HX.out
    rw [hov] at hx hy hf
    simp only [if_true] at hx hy hf
    subst hx hy hf
    clear HX
    have bx := M2.out.cellK 0 rfl
    have fx := M2.out.frozenK 0 rfl
    have MS := Lib.hid (((M2.out.set (i := 0) (.int .i64 0)).set (i := 1) (.int .i64 0)).set (i := 2) (.int .i64 0))
    go_upto_region 7 with fail
    generalize World.setCell (World.setCell (World.setCell _ _ _) _ _) _ _ = w3 at MS ⊢
    have M3 : Hid (Mem w0 w3 (⟨g, t, c4 0 0 0 F⟩ :: Ks) (intR (some ⟨gi, 0, none⟩) ci [0, pt] :: Os)) := MS
    clear MS M2 bx fx
    have bx := M3.out.cellK 0 rfl
    have p2 : w3.cell? ⟨g, 2, none⟩ = some (.int .i64 0) := bx 2
    have p3 : w3.cell? ⟨g, 3, none⟩ = some (.int .i64 F) := bx 3
    have q9 : w3.drew.cell? ⟨g, 2, none⟩ = some (.int .i64 0) ∧ w3.drew.cell? ⟨g, 3, none⟩ = some (.int .i64 F) := ⟨p2, p3⟩
    have hlt := (M3.out.ltK 0 rfl).2
    have MF := Lib.hid ((M3.out.alloc 3 #[.int .i64 0, .int .i64 F]).drew.asRow (sz := 1) (n := 2) (xs := ints [0, F]) rfl rfl (by decide))
    clear M3 bx
    go_upto_region 7 with fail
    go_region_held3 (fun w' => w'.cell? ⟨g, 2, none⟩ = some (.int .i64 0) ∧ w'.cell? ⟨g, 3, none⟩ = some (.int .i64 F))
      (first | with_reducible assumption | (refine ⟨?_, ?_⟩ <;> go_simp))
      (fail)
    go_wp2
    go_ret
    exact ⟨_, rfl, MF.out⟩

end Go.Proofs.YthgjjclmepfbpaaDoor.Blk
