/-
  The steps of the three timers. Conditions: the box and the row are the call's own; times lie within 32 bits.
-/
import Derived.Test.YthgjjclmepfbpaaDoorBlk9
import Derived.Deep.RegionWith
namespace Go.Proofs.YthgjjclmepfbpaaDoor.Blk
open Go.RowKit Go.Proofs.YthgjjclmepfbpaaDoor.W Go.Proofs.YthgjjclmepfbpaaDoor.Ints Go.Proofs.YthgjjclmepfbpaaDoor.Cell Go.Proofs.YthgjjclmepfbpaaDoor.Num

set_option maxRecDepth 100000 in
set_option maxHeartbeats 12800000 in
theorem ton_off {w0 w : World} {Ks : List Box} {Os : List Row} {g gi ci : Nat} {t : TypeId} {a b c d pt now : Int} (h : Mem w0 w (⟨g, t, c4 a b c d⟩ :: Ks) (intR (some ⟨gi, 0, none⟩) ci [0, pt] :: Os)) :
    Calls Tryd.prog 65 #[.pointer (some ⟨g, 0, none⟩), .slice (some ⟨gi, 0, none⟩) 2 ci, .int .i64 now] w fun e w' => ∃ g', e = .returned (.slice (some ⟨g', 0, none⟩) 2 2) ∧ Mem w0 w' (⟨g, t, c4 0 0 0 0⟩ :: Ks) (intR (some ⟨g', 0, none⟩) 2 [0, 0] :: intR (some ⟨gi, 0, none⟩) ci [0, pt] :: Os) := by
  have bx := h.cellK 0 rfl
  have fx := h.frozenK 0 rfl
  have row := h.rowO 0 rfl
  have r0 : w.cell? ⟨gi, 0, none⟩ = some (.int .i64 0) := row.cellAt 0 (by simp)
  have MF := Lib.hid ((((((h.set (i := 0) (.int .i64 0)).set (i := 1) (.int .i64 0)).set (i := 2) (.int .i64 0)).set (i := 3) (.int .i64 0)).alloc 3 #[.int .i64 0, .int .i64 0]).asRow (sz := 1) (n := 2) (xs := ints [0, 0]) rfl rfl (by decide))
  clear h row
  go_enter Tryd.func65, Tryd.ntmps65
  go_wp2
  go_ret
  have hF := MF.out
  simp only [World.size_setCell] at hF
  exact ⟨_, rfl, hF⟩
set_option maxRecDepth 100000 in
set_option maxHeartbeats 12800000 in
theorem ton_on {w0 w : World} {Ks : List Box} {Os : List Row} {g gi ci : Nat} {t : TypeId} {a b c d pt now : Int} (h : Mem w0 w (⟨g, t, c4 a b c d⟩ :: Ks) (intR (some ⟨gi, 0, none⟩) ci [1, pt] :: Os)) (ha : ¬ a = 0) (hn : 0 ≤ now) (hn' : now ≤ 4294967295) (hb : 0 ≤ b) (hb' : b ≤ 4294967295) (hc : c = 0) :
    Calls Tryd.prog 65 #[.pointer (some ⟨g, 0, none⟩), .slice (some ⟨gi, 0, none⟩) 2 ci, .int .i64 now] w fun e w' => ∃ g', e = .returned (.slice (some ⟨g', 0, none⟩) 2 2) ∧ Mem w0 w' (⟨g, t, c4 a b (if farF now b pt == pt then 1 else 0) (farF now b pt)⟩ :: Ks) (intR (some ⟨g', 0, none⟩) 2 [if farF now b pt == pt then 1 else 0, farF now b pt] :: intR (some ⟨gi, 0, none⟩) ci [1, pt] :: Os) := by
  subst hc
  obtain ⟨F, hF⟩ : ∃ F, farF now b pt = F := ⟨_, rfl⟩
  rw [hF]
  have HF := Lib.hid hF
  clear hF
  obtain ⟨f, hf⟩ : ∃ f : Int, (if (F == pt) = true then 1 else 0) = f := ⟨_, rfl⟩
  rw [hf]
  have Hf := Lib.hid hf
  clear hf
  have bx := h.cellK 0 rfl
  have fx := h.frozenK 0 rfl
  have row := h.rowO 0 rfl
  have r0 : w.cell? ⟨gi, 0, none⟩ = some (.int .i64 1) := row.cellAt 0 (by simp)
  have r1 : w.cell? ⟨gi, 1, none⟩ = some (.int .i64 pt) := row.cellAt 1 (by simp)
  have M := Lib.hid h
  have ha1 : (a == 0) = false := by simpa using ha
  clear h row
  go_enter Tryd.func65, Tryd.ntmps65
  go_wp2_with fail
  have hbg := begin_clock (now := now) M.out
  rw [if_neg ha, if_neg ha] at hbg
  refine hbg.mono ?_
  rintro e w1 ⟨rfl, hm1⟩
  dsimp only
  have M1 := Lib.hid hm1
  clear M hbg hm1 bx fx r0 r1
  have bx := M1.out.cellK 0 rfl
  have row := M1.out.rowO 0 rfl
  have r1 : w1.cell? ⟨gi, 1, none⟩ = some (.int .i64 pt) := row.cellAt 1 (by simp)
  clear row
  go_upto_region 7 with fail
  have q0 : w1.drew.cell? ⟨gi, 1, none⟩ = some (.int .i64 pt) ∧ w1.drew.cell? ⟨g, 2, none⟩ = some (.int .i64 0) := ⟨r1, bx 2⟩
  have hc0 : ((0 : Int) == 0) = true := by simp
  go_region_held3 (fun w' => w'.cell? ⟨gi, 1, none⟩ = some (.int .i64 pt) ∧ w'.cell? ⟨g, 2, none⟩ = some (.int .i64 0))
    (with_reducible assumption)
    ((go_at_call 67
      refine (over_clock M1.out.drew hn hn' hb hb').mono ?_
      rintro e w2 ⟨rfl, hm2⟩
      dsimp only
      rw [HF.out] at hm2 ⊢
      have M2 := Lib.hid hm2
      have row2 := hm2.rowO 0 rfl
      have q2 : w2.cell? ⟨gi, 1, none⟩ = some (.int .i64 pt) ∧ w2.cell? ⟨g, 2, none⟩ = some (.int .i64 0) := ⟨row2.cellAt 1 (by simp), hm2.cellK 0 rfl 2⟩
      clear hm2 row2))
  clear q0 bx r1 M1 hc0 q2
  go_upto_if 50 with fail
  go_cut [] from 49 to 65 (fun wc => Hid (Mem w0 wc (⟨g, t, c4 a b f F⟩ :: Ks) (intR (some ⟨gi, 0, none⟩) ci [1, pt] :: Os)))
  case first =>
    cases hov : (F == pt)
    · have hz : f = 0 := by rw [← Hf.out, hov]; rfl
      clear Hf
      subst hz
      go_wp2
      go_meet
      exact M2
    · have hz : f = 1 := by rw [← Hf.out, hov]; rfl
      clear Hf
      subst hz
      have bx := M2.out.cellK 0 rfl
      have fx := M2.out.frozenK 0 rfl
      have MS := Lib.hid (M2.out.set (i := 2) (.int .i64 1))
      go_wp2
      go_meet
      exact MS
  case rest =>
    have M3 := hcut
    clear M2
    have bx := M3.out.cellK 0 rfl
    have p2 : wc.cell? ⟨g, 2, none⟩ = some (.int .i64 f) := bx 2
    have p3 : wc.cell? ⟨g, 3, none⟩ = some (.int .i64 F) := bx 3
    have q9 : wc.drew.cell? ⟨g, 2, none⟩ = some (.int .i64 f) ∧ wc.drew.cell? ⟨g, 3, none⟩ = some (.int .i64 F) := ⟨p2, p3⟩
    have hlt := (M3.out.ltK 0 rfl).2
    have MF := Lib.hid ((M3.out.alloc 3 #[.int .i64 f, .int .i64 F]).drew.asRow (sz := 1) (n := 2) (xs := ints [f, F]) rfl rfl (by decide))
    clear M3 bx
    go_upto_region 9 with fail
    go_region_held3 (fun w' => w'.cell? ⟨g, 2, none⟩ = some (.int .i64 f) ∧ w'.cell? ⟨g, 3, none⟩ = some (.int .i64 F))
      (first | with_reducible assumption | (refine ⟨?_, ?_⟩ <;> go_simp))
      (fail)
    go_wp2
    go_ret
    exact ⟨_, rfl, MF.out⟩
set_option maxRecDepth 100000 in
set_option maxHeartbeats 12800000 in
theorem ton_new {w0 w : World} {Ks : List Box} {Os : List Row} {g gi ci : Nat} {t : TypeId} {b c d pt now : Int} (h : Mem w0 w (⟨g, t, c4 0 b c d⟩ :: Ks) (intR (some ⟨gi, 0, none⟩) ci [1, pt] :: Os)) (hn : 0 ≤ now) (hn' : now ≤ 4294967295) :
    Calls Tryd.prog 65 #[.pointer (some ⟨g, 0, none⟩), .slice (some ⟨gi, 0, none⟩) 2 ci, .int .i64 now] w fun e w' => ∃ g', e = .returned (.slice (some ⟨g', 0, none⟩) 2 2) ∧ Mem w0 w' (⟨g, t, c4 1 now (if farF now now pt == pt then 1 else 0) (farF now now pt)⟩ :: Ks) (intR (some ⟨g', 0, none⟩) 2 [if farF now now pt == pt then 1 else 0, farF now now pt] :: intR (some ⟨gi, 0, none⟩) ci [1, pt] :: Os) := by
  obtain ⟨F, hF⟩ : ∃ F, farF now now pt = F := ⟨_, rfl⟩
  rw [hF]
  have HF := Lib.hid hF
  clear hF
  obtain ⟨f, hf⟩ : ∃ f : Int, (if (F == pt) = true then 1 else 0) = f := ⟨_, rfl⟩
  rw [hf]
  have Hf := Lib.hid hf
  clear hf
  have bx := h.cellK 0 rfl
  have fx := h.frozenK 0 rfl
  have row := h.rowO 0 rfl
  have r0 : w.cell? ⟨gi, 0, none⟩ = some (.int .i64 1) := row.cellAt 0 (by simp)
  have r1 : w.cell? ⟨gi, 1, none⟩ = some (.int .i64 pt) := row.cellAt 1 (by simp)
  have M := Lib.hid h
  have hM5 : Mem w0 ((w.setCell ⟨g, 2, none⟩ (.int .i64 0)).setCell ⟨g, 3, none⟩ (.int .i64 0)) (⟨g, t, c4 0 b 0 0⟩ :: Ks) (intR (some ⟨gi, 0, none⟩) ci [1, pt] :: Os) := (h.set (i := 2) (.int .i64 0)).set (i := 3) (.int .i64 0)
  have M5 := Lib.hid hM5
  clear hM5
  clear h row
  go_enter Tryd.func65, Tryd.ntmps65
  go_wp2_with fail
  have hbg := begin_clock (now := now) M5.out
  rw [if_pos rfl, if_pos rfl] at hbg
  refine hbg.mono ?_
  rintro e w1 ⟨rfl, hm1⟩
  dsimp only
  have M1 := Lib.hid hm1
  clear M M5 hbg hm1 bx fx r0 r1
  have bx := M1.out.cellK 0 rfl
  have row := M1.out.rowO 0 rfl
  have r1 : w1.cell? ⟨gi, 1, none⟩ = some (.int .i64 pt) := row.cellAt 1 (by simp)
  clear row
  go_upto_region 7 with fail
  have q0 : w1.drew.cell? ⟨gi, 1, none⟩ = some (.int .i64 pt) ∧ w1.drew.cell? ⟨g, 2, none⟩ = some (.int .i64 0) := ⟨r1, bx 2⟩
  have hc0 : ((0 : Int) == 0) = true := by simp
  go_region_held3 (fun w' => w'.cell? ⟨gi, 1, none⟩ = some (.int .i64 pt) ∧ w'.cell? ⟨g, 2, none⟩ = some (.int .i64 0))
    (with_reducible assumption)
    ((go_at_call 67
      refine (over_clock M1.out.drew hn hn' hn hn').mono ?_
      rintro e w2 ⟨rfl, hm2⟩
      dsimp only
      rw [HF.out] at hm2 ⊢
      have M2 := Lib.hid hm2
      have row2 := hm2.rowO 0 rfl
      have q2 : w2.cell? ⟨gi, 1, none⟩ = some (.int .i64 pt) ∧ w2.cell? ⟨g, 2, none⟩ = some (.int .i64 0) := ⟨row2.cellAt 1 (by simp), hm2.cellK 0 rfl 2⟩
      clear hm2 row2))
  clear q0 bx r1 M1 hc0 q2
  go_upto_if 50 with fail
  go_cut [] from 49 to 65 (fun wc => Hid (Mem w0 wc (⟨g, t, c4 1 now f F⟩ :: Ks) (intR (some ⟨gi, 0, none⟩) ci [1, pt] :: Os)))
  case first =>
    cases hov : (F == pt)
    · have hz : f = 0 := by rw [← Hf.out, hov]; rfl
      clear Hf
      subst hz
      go_wp2
      go_meet
      exact M2
    · have hz : f = 1 := by rw [← Hf.out, hov]; rfl
      clear Hf
      subst hz
      have bx := M2.out.cellK 0 rfl
      have fx := M2.out.frozenK 0 rfl
      have MS := Lib.hid (M2.out.set (i := 2) (.int .i64 1))
      go_wp2
      go_meet
      exact MS
  case rest =>
    have M3 := hcut
    clear M2
    have bx := M3.out.cellK 0 rfl
    have p2 : wc.cell? ⟨g, 2, none⟩ = some (.int .i64 f) := bx 2
    have p3 : wc.cell? ⟨g, 3, none⟩ = some (.int .i64 F) := bx 3
    have q9 : wc.drew.cell? ⟨g, 2, none⟩ = some (.int .i64 f) ∧ wc.drew.cell? ⟨g, 3, none⟩ = some (.int .i64 F) := ⟨p2, p3⟩
    have hlt := (M3.out.ltK 0 rfl).2
    have MF := Lib.hid ((M3.out.alloc 3 #[.int .i64 f, .int .i64 F]).drew.asRow (sz := 1) (n := 2) (xs := ints [f, F]) rfl rfl (by decide))
    clear M3 bx
    go_upto_region 9 with fail
    go_region_held3 (fun w' => w'.cell? ⟨g, 2, none⟩ = some (.int .i64 f) ∧ w'.cell? ⟨g, 3, none⟩ = some (.int .i64 F))
      (first | with_reducible assumption | (refine ⟨?_, ?_⟩ <;> go_simp))
      (fail)
    go_wp2
    go_ret
    exact ⟨_, rfl, MF.out⟩
set_option maxRecDepth 100000 in
set_option maxHeartbeats 12800000 in
theorem ton_held {w0 w : World} {Ks : List Box} {Os : List Row} {g gi ci : Nat} {t : TypeId} {a b c d pt now : Int} (h : Mem w0 w (⟨g, t, c4 a b c d⟩ :: Ks) (intR (some ⟨gi, 0, none⟩) ci [1, pt] :: Os)) (ha : ¬ a = 0) (hc : ¬ c = 0) :
    Calls Tryd.prog 65 #[.pointer (some ⟨g, 0, none⟩), .slice (some ⟨gi, 0, none⟩) 2 ci, .int .i64 now] w fun e w' => ∃ g', e = .returned (.slice (some ⟨g', 0, none⟩) 2 2) ∧ Mem w0 w' (⟨g, t, c4 a b c d⟩ :: Ks) (intR (some ⟨g', 0, none⟩) 2 [c, d] :: intR (some ⟨gi, 0, none⟩) ci [1, pt] :: Os) := by
  have bx := h.cellK 0 rfl
  have fx := h.frozenK 0 rfl
  have row := h.rowO 0 rfl
  have r0 : w.cell? ⟨gi, 0, none⟩ = some (.int .i64 1) := row.cellAt 0 (by simp)
  have M := Lib.hid h
  have ha1 : (a == 0) = false := by simpa using ha
  have hc1 : (c == 0) = false := by simpa using hc
  clear h row
  go_enter Tryd.func65, Tryd.ntmps65
  go_wp2_with fail
  have hbg := begin_clock (now := now) M.out
  rw [if_neg ha, if_neg ha] at hbg
  refine hbg.mono ?_
  rintro e w1 ⟨rfl, hm1⟩
  dsimp only
  have M3 := Lib.hid hm1
  clear M hbg hm1 bx fx r0 ha
  have bx := M3.out.cellK 0 rfl
  have q0 : w1.cell? ⟨g, 2, none⟩ = some (.int .i64 c) := bx 2
  clear bx
  go_upto_region 7 with fail
  go_quiet (fail)
  go_upto_region 9 with fail
  have M4 := Lib.hid (M3.out.drewN nq)
  clear M3 q0
  generalize World.drewN w1 nq = w4 at M4 ⊢
  have bx := M4.out.cellK 0 rfl
  have p2 : w4.cell? ⟨g, 2, none⟩ = some (.int .i64 c) := bx 2
  have p3 : w4.cell? ⟨g, 3, none⟩ = some (.int .i64 d) := bx 3
  have q9 : w4.drew.cell? ⟨g, 2, none⟩ = some (.int .i64 c) ∧ w4.drew.cell? ⟨g, 3, none⟩ = some (.int .i64 d) := ⟨p2, p3⟩
  have hlt := (M4.out.ltK 0 rfl).2
  have MF := Lib.hid ((M4.out.alloc 3 #[.int .i64 c, .int .i64 d]).drew.asRow (sz := 1) (n := 2) (xs := ints [c, d]) rfl rfl (by decide))
  clear M4 bx
  go_upto_region 9 with fail
  go_region_held3 (fun w' => w'.cell? ⟨g, 2, none⟩ = some (.int .i64 c) ∧ w'.cell? ⟨g, 3, none⟩ = some (.int .i64 d))
    (first | with_reducible assumption | (refine ⟨?_, ?_⟩ <;> go_simp))
    (fail)
  go_wp2
  go_ret
  exact ⟨_, rfl, MF.out⟩
end Go.Proofs.YthgjjclmepfbpaaDoor.Blk
