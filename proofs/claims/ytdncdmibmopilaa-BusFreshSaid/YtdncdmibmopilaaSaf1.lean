/-
  The keep-statements' onward: it answers true. No conditions.
-/
import Derived.Test.YtdncdmibmopilaaKeep1
import Derived.Test.YtdncdmibmopilaaTak4
import Derived.Test.YtdncdmibmopilaaRnd
namespace Go.Proofs.Ytdncdmibmopilaa.Bus
open Go.RowKit Go.Proofs.Ytdncdmibmopilaa.W Go.Proofs.Ytdncdmibmopilaa.Ints Go.Proofs.Ytdncdmibmopilaa.Byt Go.Proofs.Ytdncdmibmopilaa.Num Go.Proofs.Ytdncdmibmopilaa.Keep

theorem FreshL.rd {w w' : World} {e : Ending} {F : LD × Int} (h : FreshL w w' e F) :
    ∃ A c B d, e = .returned (.tuple #[linkV F.1.st F.1.wt (.slice A F.1.safe.length c) (.slice B F.1.words.length d) F.1.seq F.1.age F.1.fresh, .int .i64 F.2]) ∧ Below w.heap.size w w' ∧
      Rd w' 1 A F.1.safe.length (ints F.1.safe) ∧ Rd w' 1 B F.1.words.length (ints F.1.words) ∧ (∀ a, A = some a → w.heap.size ≤ a.block ∧ a.block < w'.heap.size) ∧ (∀ a, B = some a → w.heap.size ≤ a.block ∧ a.block < w'.heap.size) := by
  obtain ⟨A, c, B, d, he, hr⟩ := h
  exact ⟨A, c, B, d, he, hr.bel, hr.safe, hr.words, hr.range1, hr.range2⟩
theorem started {st wt : Int} {zs : List Int} (h1 : 0 ≤ st) (h2 : st ≤ 247) (h3 : 1 ≤ wt) (h4 : wt ≤ 1000) (h5 : speltE zs = 0) : linkedF st wt zs = (⟨st, wt, zs, zs, 0, 0, false⟩, 0) := by
  simp [linkedF, h1, h2, h3, h4, h5]
theorem framed {st seq : Int} {zs : List Int} (h1 : 0 ≤ st) (h2 : st ≤ 247) (h3 : 0 ≤ seq) (h4 : seq ≤ 255) (h5 : speltE zs = 0) : frameF st seq zs = (frameB st.toNat seq.toNat zs, 0) := by
  simp [frameF, h1, h2, h3, h4, h5]
theorem could {st wt : Int} {xs ys : List Int} {seq age : Int} {fresh : Bool} (h1 : 0 ≤ st) (h2 : st ≤ 247) (h4 : wt ≤ 1000) (h5 : speltE xs = 0) (h6 : speltE ys = 0) (h7 : ys.length = xs.length) (h8 : 0 ≤ seq) (h9 : seq ≤ 255) (h10 : 0 ≤ age) (h11 : age < wt)
    (h : fresh = true ∨ age = 0 ∧ ys = xs) : couldB st wt xs ys seq age fresh = true := by
  have h3 : 1 ≤ wt := by omega
  rcases h with h | ⟨ha, rfl⟩
  · simp [couldB, started h1 h2 h3 h4 h5, h6, h7, h8, h9, h10, h11, h]
  · subst ha
    simp [couldB, started h1 h2 h3 h4 h5, h5, h8, h9]
    omega
/-- a right frame comes -/
theorem took {st wt : Int} {xs ys zs : List Int} {seq age q : Int} {fresh : Bool} (h1 : 0 ≤ st) (h2 : st ≤ 247) (h3 : 0 ≤ q) (h4 : q ≤ 255) (h5 : speltE zs = 0) (h6 : zs.length = xs.length) (hc : couldB st wt xs ys seq age fresh = true) :
    heardF st wt xs ys seq age fresh (openF (frameB st.toNat q.toNat zs)) = if (fresh && lateB seq q) = true then (⟨st, wt, xs, ys, seq, age, fresh⟩, 18) else (⟨st, wt, xs, zs, q, 0, true⟩, 0) := by
  rw [open_frame h1 h2 h3 h4 h5]
  unfold heardF
  rw [if_pos hc, if_neg (by simp), if_neg (by simp), if_neg (by simp [h6])]

theorem rd_two (w : World) (t : TypeId) (x y : Int) : Rd (w.alloc (.cells #[.int .i64 x, .int .i64 y] t)) 1 (some ⟨w.heap.size, 0, none⟩) 2 (ints [x, y]) := rd_blk (Blk.new w t _) rfl rfl
theorem rd_two1 (w : World) (o : Obj) (t : TypeId) (x y : Int) : Rd ((w.alloc o).alloc (.cells #[.int .i64 x, .int .i64 y] t)) 1 (some ⟨w.heap.size + 1, 0, none⟩) 2 (ints [x, y]) := by
  have h := rd_two (w.alloc o) t x y
  rwa [World.size_alloc] at h
set_option maxRecDepth 100000 in
set_option maxHeartbeats 400000 in
theorem onward_any (w : World) : Calls Try.prog 27 #[] w fun e w' => e = .returned (.bool true) ∧ Below w.heap.size w w' := by
  have hs1 : speltE [7, 8] = 0 := by decide
  have hs2 : speltE [1, 2] = 0 := by decide
  have e1 : linkedF 3 2 [7, 8] = (⟨3, 2, [7, 8], [7, 8], 0, 0, false⟩, 0) := started (by omega) (by omega) (by omega) (by omega) hs1
  have e2 : frameF 3 200 [1, 2] = (frameB 3 200 [1, 2], 0) := framed (by omega) (by omega) (by omega) (by omega) hs2
  have e3 : heardF 3 2 [7, 8] [7, 8] 0 0 false (openF (frameB 3 200 [1, 2])) = (⟨3, 2, [7, 8], [1, 2], 200, 0, true⟩, 0) := by
    have h := took (st := 3) (q := 200) (xs := [7, 8]) (zs := [1, 2]) (by omega) (by omega) (by omega) (by omega) hs2 rfl (could (st := 3) (wt := 2) (xs := [7, 8]) (ys := [7, 8]) (seq := 0) (age := 0) (fresh := false) (by omega) (by omega) (by omega) hs1 hs1 rfl (by omega) (by omega) (by omega) (by omega) (.inr ⟨rfl, rfl⟩))
    simpa using h
  have hfl : (frameB 3 200 [1, 2]).length = 9 := frame_len _ _ _
  generalize frameB 3 200 [1, 2] = FB at *
  have E1 := Lib.hid e1
  have E2 := Lib.hid e2
  have E3 := Lib.hid e3
  clear e1 e2 e3 hs1 hs2
  go_enter Try.func27, Try.ntmps27
  go_wp2_with fail
  refine (Start_any 3 2 _ 2 _ [7, 8] _ (rd_two w 3 7 8) (by omega) (by omega)).mono ?_
  intro e w1 hf
  rw [E1.out] at hf
  obtain ⟨A1, c1, A2, c2, rfl, hb1, r1, r2, g1, g2⟩ := hf.rd
  clear hf
  simp only [World.size_alloc] at g1 g2
  have B1 := Lib.hid ((below_alloc (.cells #[.int .i64 7, .int .i64 8] 3)).trans (hb1.mono (by simp)))
  have z1 := hb1.size
  simp only [World.size_alloc] at z1
  clear hb1
  go_wp2_with fail
  refine (Frame_any 3 200 _ 2 _ [1, 2] _ (rd_two1 w1 (.cells (linkC 3 2 (.slice A1 2 c1) (.slice A2 2 c2) 0 0 false) 24) 3 1 2) (by omega)).mono ?_
  intro e w2 hf
  rw [E2.out] at hf
  obtain ⟨A3, c3, rfl, o3, hb2⟩ := hf
  simp only [hfl] at o3
  have z2 := hb2.size
  simp only [World.size_alloc] at z2
  have k1 := ((Blk.new w1 24 (linkC 3 2 (.slice A1 2 c1) (.slice A2 2 c2) 0 0 false)).alloc (.cells #[.int .i64 1, .int .i64 2] 3)).below hb2
  have HB := Lib.hid (((below_alloc (.cells (linkC 3 2 (.slice A1 2 c1) (.slice A2 2 c2) 0 0 false) 24)).alloc (by simp) (.cells #[.int .i64 1, .int .i64 2] 3)).trans (hb2.mono (by simp; omega)))
  have c1' := k1.cell
  have f1' := k1.frozen
  have HO3 := Lib.hid (Rd.own o3)
  obtain ⟨_, c3', he3, hs1, hs2, _⟩ := own_shape o3
  have hc3 : c3' = c3 := by cases he3; rfl
  subst hc3
  clear o3 hb2 he3
  rw [hfl]
  have q1 := Lib.hid (r1.below HB.out)
  have q2 := Lib.hid (r2.below HB.out)
  clear r1 r2
  go_wp2_with fail
  refine (Take_any 3 2 A1 2 c1 A2 2 c2 0 0 false [7, 8] [7, 8] A3 9 c3' FB w2 q1.out (by omega) q2.out (by omega) (by omega) (by omega) HO3.out hs1 (by omega) hs2).mono ?_
  intro e w3 hf
  rw [E3.out] at hf
  obtain ⟨A4, c4, A5, c5, rfl, hb3, r4, r5, g4, g5⟩ := hf.rd
  clear hf
  have z3 := hb3.size
  have k1' := k1.below hb3
  have d1 := k1'.cell
  have e1 := k1'.frozen
  have K1 := Lib.hid k1'
  have p1 := Lib.hid (q1.out.below hb3)
  have p2 := Lib.hid (q2.out.below hb3)
  have p4 := Lib.hid r4
  have p5 := Lib.hid r5
  have HB3 := Lib.hid (B1.out.trans ((HB.out.mono (by omega)).trans (hb3.mono (by omega))))
  clear k1 k1' c1' f1' q1 q2 HB B1 hb3 r4 r5 HO3
  have z4 : w1.heap.size < w3.heap.size := by omega
  go_wp2_with fail
  refine (equal_any A2 (some ⟨w3.heap.size + 1, 0, none⟩) 2 2 c2 2 [7, 8] [7, 8] _ ((p2.out.alloc _).alloc _) (rd_two1 w3 _ 3 7 8) (by unfold maxLen; omega)).mono ?_
  rintro e w4 ⟨rfl, q, rfl⟩
  rw [show decide (([7, 8] : List Int) = [7, 8]) = true from rfl]
  have k2 := (((Blk.new w3 24 (linkC 3 2 (.slice A4 2 c4) (.slice A5 2 c5) 200 0 true)).alloc (.cells #[.int .i64 7, .int .i64 8] 3)).drewN q)
  have k1 := ((K1.out.alloc (.cells (linkC 3 2 (.slice A4 2 c4) (.slice A5 2 c5) 200 0 true) 24)).alloc (.cells #[.int .i64 7, .int .i64 8] 3)).drewN q
  have p5' := ((p5.out.alloc (.cells (linkC 3 2 (.slice A4 2 c4) (.slice A5 2 c5) 200 0 true) 24)).alloc (.cells #[.int .i64 7, .int .i64 8] 3)).drewN q
  have HB4 := below_drewN ((HB3.out.alloc (by omega) (.cells (linkC 3 2 (.slice A4 2 c4) (.slice A5 2 c5) 200 0 true) 24)).alloc (by simp; omega) (.cells #[.int .i64 7, .int .i64 8] 3)) q
  have z5 : w3.heap.size + 1 < ((((w3.alloc (.cells (linkC 3 2 (.slice A4 2 c4) (.slice A5 2 c5) 200 0 true) 24)).alloc (.cells #[.int .i64 7, .int .i64 8] 3)).drewN q)).heap.size := by
    rw [size_drewN]; simp
  clear p1 p2 p4 p5 d1 e1 K1 HB3
  generalize World.drewN (World.alloc (World.alloc w3 _) _) q = W at *
  have d1 := k1.cell
  have e1 := k1.frozen
  have d2 := k2.cell
  have e2 := k2.frozen
  have P5 := Lib.hid p5'
  have H4 := Lib.hid HB4
  have z6 : w3.heap.size < W.heap.size := by omega
  have z7 : w1.heap.size < W.heap.size := by omega
  clear k1 k2 p5' HB4
  go_wp2_with fail
  refine (equal_any A5 (some ⟨W.heap.size, 0, none⟩) 2 2 c5 2 [1, 2] [1, 2] _ (P5.out.alloc _) (rd_two W 3 1 2) (by unfold maxLen; omega)).mono ?_
  rintro e w5 ⟨rfl, q', rfl⟩
  rw [show decide (([1, 2] : List Int) = [1, 2]) = true from rfl]
  have H5 := Lib.hid (below_drewN (H4.out.alloc (by omega) (.cells #[.int .i64 1, .int .i64 2] 3)) q')
  go_wp2
  go_ret
  exact ⟨rfl, H5.out⟩
end Go.Proofs.Ytdncdmibmopilaa.Bus
