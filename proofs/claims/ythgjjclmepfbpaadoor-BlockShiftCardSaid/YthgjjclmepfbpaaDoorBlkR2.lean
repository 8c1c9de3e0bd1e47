/-
  The reference's timer. Conditions: the rows read; times lie within 32 bits.
-/
import Derived.Test.YthgjjclmepfbpaaDoorBlkR1
import Derived.Test.YthgjjclmepfbpaaDoorBlkZp
import Derived.BigRegion
import Derived.Deep.QuietTactic
import Derived.BigQuiet
namespace Go.Proofs.YthgjjclmepfbpaaDoor.Blk
open Go.RowKit Go.Proofs.YthgjjclmepfbpaaDoor.W Go.Proofs.YthgjjclmepfbpaaDoor.Ints Go.Proofs.YthgjjclmepfbpaaDoor.Cell Go.Proofs.YthgjjclmepfbpaaDoor.Num

theorem rd_cells {w : World} {g : Nat} {n : Nat} {l : List Int} (h : Rd w 1 (some ⟨g, 0, none⟩) n (ints l)) (hn : 0 < n) : ∀ (j : Nat) (x : Int), l[j]? = some x → w.cell? ⟨g, j, none⟩ = some (.int .i64 x) := by
  obtain ⟨b, o, e, hc⟩ := h.2 hn
  injection e with e
  injection e with e1 e2
  subst e1 e2
  intro j x hx
  have := hc j (.int .i64 x) (by simp [ints, hx])
  simpa using this
theorem two_rows {w0 w : World} {Ks : List Box} {Os : List Row} (h : Mem w0 w Ks Os) {c1 c2 : Array Value} (l1 l2 : List Int) (n1 n2 : Nat) (e1 : c1.toList = ints l1) (e2 : c2.toList = ints l2) (m1 : l1.length = n1) (m2 : l2.length = n2) (k1 : n1 ≤ 100) (k2 : n2 ≤ 100) :
    Mem w0 ((w.alloc (.cells c1 3)).alloc (.cells c2 3)) Ks (⟨3, 1, some ⟨w.heap.size + 1, 0, none⟩, n2, n2, ints l2⟩ :: ⟨3, 1, some ⟨w.heap.size, 0, none⟩, n1, n1, ints l1⟩ :: Os) := by
  have h1 := (h.alloc 3 c1).asRow (sz := 1) (n := n1) (xs := ints l1) e1 (by simp [ints, m1]) (by unfold maxLen; omega)
  have h2 := (h1.alloc 3 c2).asRow (sz := 1) (n := n2) (xs := ints l2) e2 (by simp [ints, m2]) (by unfold maxLen; omega)
  rw [World.size_alloc] at h2
  exact h2
theorem far_hi {now b pt E : Int} (h : wrapF 5 (now - b) = E) (hp : pt ≤ E) : farF now b pt = pt := by
  unfold farF
  rw [h]
  omega
theorem far_lo {now b pt E : Int} (h : wrapF 5 (now - b) = E) (hp : ¬ pt ≤ E) : farF now b pt = E ∧ (farF now b pt == pt) = false := by
  unfold farF
  rw [h]
  refine ⟨by omega, ?_⟩
  simp
  omega
def yesI (b : Bool) : Int := if b = true then 1 else 0
theorem yes_any (b : Bool) (w : World) : Calls Tryd.prog 26 #[.bool b] w fun e w' => e = .returned (.int .i64 (yesI b)) ∧ w = w' := by
  cases b
  · go_enter Tryd.func26, Tryd.ntmps26
    go_wp2
    go_ret
    exact ⟨rfl, rfl⟩
  · go_enter Tryd.func26, Tryd.ntmps26
    go_wp2
    go_ret
    exact ⟨rfl, rfl⟩

set_option maxRecDepth 100000 in
set_option maxHeartbeats 3200000 in
theorem tmr_ton_ac0 {w0 w : World} {Ks : List Box} {Os : List Row} {gs cs : Nat} {a b c d pt now : Int} (h : Mem w0 w Ks Os) (hr : Rd w 1 (some ⟨gs, 0, none⟩) 4 (ints [a, b, c, d])) (_hn : 0 ≤ now ∧ now ≤ 4294967295) (_hb : 0 ≤ b ∧ b ≤ 4294967295) :
    Calls Tryd.prog 24 #[.string ⟨#[116, 111, 110]⟩, .slice (some ⟨gs, 0, none⟩) 4 cs, .bool false, .int .i64 pt, .int .i64 now] w fun e w' => ∃ g2 g3, e = .returned (.tuple #[.slice (some ⟨g2, 0, none⟩) 4 4, .slice (some ⟨g3, 0, none⟩) 2 2]) ∧ Mem w0 w' Ks (⟨3, 1, some ⟨g3, 0, none⟩, 2, 2, ints [(tonS a b c d 0 pt now).q, (tonS a b c d 0 pt now).e]⟩ :: ⟨3, 1, some ⟨g2, 0, none⟩, 4, 4, ints [(tonS a b c d 0 pt now).a, (tonS a b c d 0 pt now).b, (tonS a b c d 0 pt now).c, (tonS a b c d 0 pt now).d]⟩ :: Os) := by
  have r0 : w.cell? ⟨gs, 0, none⟩ = some (.int .i64 a) := rd_cells hr (by decide) 0 _ rfl
  have r1 : w.cell? ⟨gs, 1, none⟩ = some (.int .i64 b) := rd_cells hr (by decide) 1 _ rfl
  have r2 : w.cell? ⟨gs, 2, none⟩ = some (.int .i64 c) := rd_cells hr (by decide) 2 _ rfl
  have r3 : w.cell? ⟨gs, 3, none⟩ = some (.int .i64 d) := rd_cells hr (by decide) 3 _ rfl
  have M := Lib.hid h
  have s0 : ((⟨#[116, 111, 110]⟩ : ByteArray).toList == [116, 111, 110]) = true := str_eq rfl
  clear h hr
  go_enter Tryd.func24, Tryd.ntmps24
  go_upto_region 1 with fail
  go_quiet (fail)
  have M1 := Lib.hid (M.out.drewN nq)
  clear M r0 r1 r2 r3
  generalize w.drewN nq = w1 at M1 ⊢
  go_wp2_with (fail)
  go_ret2
  refine ⟨_, _, rfl, ?_⟩
  rw [show (tonS a b c d 0 pt now) = ⟨0, 0, 0, 0, 0, 0⟩ from ?_]
  · exact two_rows M1.out [0, 0, 0, 0] [0, 0] 4 2 rfl rfl rfl rfl (by decide) (by decide)
  · simp [tonS]
set_option maxRecDepth 100000 in
set_option maxHeartbeats 3200000 in
theorem tmr_ton_0c1 {w0 w : World} {Ks : List Box} {Os : List Row} {gs cs : Nat} {b c d pt now : Int} (h : Mem w0 w Ks Os) (hr : Rd w 1 (some ⟨gs, 0, none⟩) 4 (ints [0, b, c, d])) (_hn : 0 ≤ now ∧ now ≤ 4294967295) (_hb : 0 ≤ b ∧ b ≤ 4294967295) :
    Calls Tryd.prog 24 #[.string ⟨#[116, 111, 110]⟩, .slice (some ⟨gs, 0, none⟩) 4 cs, .bool true, .int .i64 pt, .int .i64 now] w fun e w' => ∃ g2 g3, e = .returned (.tuple #[.slice (some ⟨g2, 0, none⟩) 4 4, .slice (some ⟨g3, 0, none⟩) 2 2]) ∧ Mem w0 w' Ks (⟨3, 1, some ⟨g3, 0, none⟩, 2, 2, ints [(tonS 0 b c d 1 pt now).q, (tonS 0 b c d 1 pt now).e]⟩ :: ⟨3, 1, some ⟨g2, 0, none⟩, 4, 4, ints [(tonS 0 b c d 1 pt now).a, (tonS 0 b c d 1 pt now).b, (tonS 0 b c d 1 pt now).c, (tonS 0 b c d 1 pt now).d]⟩ :: Os) := by
  have r0 : w.cell? ⟨gs, 0, none⟩ = some (.int .i64 0) := rd_cells hr (by decide) 0 _ rfl
  have r1 : w.cell? ⟨gs, 1, none⟩ = some (.int .i64 b) := rd_cells hr (by decide) 1 _ rfl
  have r2 : w.cell? ⟨gs, 2, none⟩ = some (.int .i64 c) := rd_cells hr (by decide) 2 _ rfl
  have r3 : w.cell? ⟨gs, 3, none⟩ = some (.int .i64 d) := rd_cells hr (by decide) 3 _ rfl
  have M := Lib.hid h
  have s0 : ((⟨#[116, 111, 110]⟩ : ByteArray).toList == [116, 111, 110]) = true := str_eq rfl
  have hw : IntKind.i64.wrap (now - now) = now - now := by simp [IntKind.wrap, IntKind.bits, IntKind.signed]
  have HE : Hid (∃ E, wrapF 5 (now - now) = E) := ⟨_, rfl⟩
  clear h hr
  go_enter Tryd.func24, Tryd.ntmps24
  go_upto_region 1 with fail
  go_quiet (fail)
  have M1 := Lib.hid (M.out.drewN nq)
  clear M r0 r1 r2 r3
  generalize w.drewN nq = w1 at M1 ⊢
  obtain ⟨E, hE⟩ := HE.out
  have hE2 := Lib.hid hE
  clear HE hE
  by_cases hp : pt ≤ E
  · go_wp2_with fail
    refine (WrapR_any _ _ _).mono ?_
    rintro e w2 ⟨rfl, rfl⟩
    dsimp only
    have hE3 := hE2.out
    rw [show wrapF 5 0 = E from by rw [← hE3, Int.sub_self]]
    clear hE3
    go_wp2
    go_ret2
    refine ⟨_, _, rfl, ?_⟩
    rw [show (tonS 0 b c d 1 pt now) = ⟨1, now, 1, pt, 1, pt⟩ from ?_]
    · exact two_rows M1.out [1, now, 1, pt] [1, pt] 4 2 rfl rfl rfl rfl (by decide) (by decide)
    · simp [tonS, far_hi hE2.out (show pt ≤ E by omega)]
  · go_wp2_with fail
    refine (WrapR_any _ _ _).mono ?_
    rintro e w2 ⟨rfl, rfl⟩
    dsimp only
    have hE3 := hE2.out
    rw [show wrapF 5 0 = E from by rw [← hE3, Int.sub_self]]
    clear hE3
    go_wp2
    go_ret2
    refine ⟨_, _, rfl, ?_⟩
    rw [show (tonS 0 b c d 1 pt now) = ⟨1, now, 0, E, 0, E⟩ from ?_]
    · exact two_rows M1.out [1, now, 0, E] [0, E] 4 2 rfl rfl rfl rfl (by decide) (by decide)
    · have hq := far_lo hE2.out (show ¬ pt ≤ E by omega)
      have hq2 : ¬ E = pt := by omega
      simp [tonS, hq.1, hq2]
set_option maxRecDepth 100000 in
set_option maxHeartbeats 3200000 in
theorem tmr_ton_101 {w0 w : World} {Ks : List Box} {Os : List Row} {gs cs : Nat} {b d pt now : Int} (h : Mem w0 w Ks Os) (hr : Rd w 1 (some ⟨gs, 0, none⟩) 4 (ints [1, b, 0, d])) (hn : 0 ≤ now ∧ now ≤ 4294967295) (hb : 0 ≤ b ∧ b ≤ 4294967295) :
    Calls Tryd.prog 24 #[.string ⟨#[116, 111, 110]⟩, .slice (some ⟨gs, 0, none⟩) 4 cs, .bool true, .int .i64 pt, .int .i64 now] w fun e w' => ∃ g2 g3, e = .returned (.tuple #[.slice (some ⟨g2, 0, none⟩) 4 4, .slice (some ⟨g3, 0, none⟩) 2 2]) ∧ Mem w0 w' Ks (⟨3, 1, some ⟨g3, 0, none⟩, 2, 2, ints [(tonS 1 b 0 d 1 pt now).q, (tonS 1 b 0 d 1 pt now).e]⟩ :: ⟨3, 1, some ⟨g2, 0, none⟩, 4, 4, ints [(tonS 1 b 0 d 1 pt now).a, (tonS 1 b 0 d 1 pt now).b, (tonS 1 b 0 d 1 pt now).c, (tonS 1 b 0 d 1 pt now).d]⟩ :: Os) := by
  have r0 : w.cell? ⟨gs, 0, none⟩ = some (.int .i64 1) := rd_cells hr (by decide) 0 _ rfl
  have r1 : w.cell? ⟨gs, 1, none⟩ = some (.int .i64 b) := rd_cells hr (by decide) 1 _ rfl
  have r2 : w.cell? ⟨gs, 2, none⟩ = some (.int .i64 0) := rd_cells hr (by decide) 2 _ rfl
  have r3 : w.cell? ⟨gs, 3, none⟩ = some (.int .i64 d) := rd_cells hr (by decide) 3 _ rfl
  have M := Lib.hid h
  have s0 : ((⟨#[116, 111, 110]⟩ : ByteArray).toList == [116, 111, 110]) = true := str_eq rfl
  have hw : IntKind.i64.wrap (now - b) = now - b := by simp [IntKind.wrap, IntKind.bits, IntKind.signed]; omega
  have HE : Hid (∃ E, wrapF 5 (now - b) = E) := ⟨_, rfl⟩
  clear h hr
  go_enter Tryd.func24, Tryd.ntmps24
  go_upto_region 1 with fail
  go_quiet (fail)
  have M1 := Lib.hid (M.out.drewN nq)
  clear M r0 r1 r2 r3
  generalize w.drewN nq = w1 at M1 ⊢
  obtain ⟨E, hE⟩ := HE.out
  have hE2 := Lib.hid hE
  clear HE hE
  by_cases hp : pt ≤ E
  · go_wp2_with fail
    refine (WrapR_any _ _ _).mono ?_
    rintro e w2 ⟨rfl, rfl⟩
    dsimp only
    have hE3 := hE2.out
    rw [hE3]
    clear hE3
    go_wp2
    go_ret2
    refine ⟨_, _, rfl, ?_⟩
    rw [show (tonS 1 b 0 d 1 pt now) = ⟨1, b, 1, pt, 1, pt⟩ from ?_]
    · exact two_rows M1.out [1, b, 1, pt] [1, pt] 4 2 rfl rfl rfl rfl (by decide) (by decide)
    · simp [tonS, far_hi hE2.out (show pt ≤ E by omega)]
  · go_wp2_with fail
    refine (WrapR_any _ _ _).mono ?_
    rintro e w2 ⟨rfl, rfl⟩
    dsimp only
    have hE3 := hE2.out
    rw [hE3]
    clear hE3
    go_wp2
    go_ret2
    refine ⟨_, _, rfl, ?_⟩
    rw [show (tonS 1 b 0 d 1 pt now) = ⟨1, b, 0, E, 0, E⟩ from ?_]
    · exact two_rows M1.out [1, b, 0, E] [0, E] 4 2 rfl rfl rfl rfl (by decide) (by decide)
    · have hq := far_lo hE2.out (show ¬ pt ≤ E by omega)
      have hq2 : ¬ E = pt := by omega
      simp [tonS, hq.1, hq2]
set_option maxRecDepth 100000 in
set_option maxHeartbeats 3200000 in
theorem tmr_ton_111 {w0 w : World} {Ks : List Box} {Os : List Row} {gs cs : Nat} {b d pt now : Int} (h : Mem w0 w Ks Os) (hr : Rd w 1 (some ⟨gs, 0, none⟩) 4 (ints [1, b, 1, d])) (hn : 0 ≤ now ∧ now ≤ 4294967295) (hb : 0 ≤ b ∧ b ≤ 4294967295) :
    Calls Tryd.prog 24 #[.string ⟨#[116, 111, 110]⟩, .slice (some ⟨gs, 0, none⟩) 4 cs, .bool true, .int .i64 pt, .int .i64 now] w fun e w' => ∃ g2 g3, e = .returned (.tuple #[.slice (some ⟨g2, 0, none⟩) 4 4, .slice (some ⟨g3, 0, none⟩) 2 2]) ∧ Mem w0 w' Ks (⟨3, 1, some ⟨g3, 0, none⟩, 2, 2, ints [(tonS 1 b 1 d 1 pt now).q, (tonS 1 b 1 d 1 pt now).e]⟩ :: ⟨3, 1, some ⟨g2, 0, none⟩, 4, 4, ints [(tonS 1 b 1 d 1 pt now).a, (tonS 1 b 1 d 1 pt now).b, (tonS 1 b 1 d 1 pt now).c, (tonS 1 b 1 d 1 pt now).d]⟩ :: Os) := by
  have r0 : w.cell? ⟨gs, 0, none⟩ = some (.int .i64 1) := rd_cells hr (by decide) 0 _ rfl
  have r1 : w.cell? ⟨gs, 1, none⟩ = some (.int .i64 b) := rd_cells hr (by decide) 1 _ rfl
  have r2 : w.cell? ⟨gs, 2, none⟩ = some (.int .i64 1) := rd_cells hr (by decide) 2 _ rfl
  have r3 : w.cell? ⟨gs, 3, none⟩ = some (.int .i64 d) := rd_cells hr (by decide) 3 _ rfl
  have M := Lib.hid h
  have s0 : ((⟨#[116, 111, 110]⟩ : ByteArray).toList == [116, 111, 110]) = true := str_eq rfl
  have hw : IntKind.i64.wrap (now - b) = now - b := by simp [IntKind.wrap, IntKind.bits, IntKind.signed]; omega
  have HE : Hid (∃ E, wrapF 5 (now - b) = E) := ⟨_, rfl⟩
  clear h hr
  go_enter Tryd.func24, Tryd.ntmps24
  go_upto_region 1 with fail
  go_quiet (fail)
  have M1 := Lib.hid (M.out.drewN nq)
  clear M r0 r1 r2 r3
  generalize w.drewN nq = w1 at M1 ⊢
  obtain ⟨E, hE⟩ := HE.out
  have hE2 := Lib.hid hE
  clear HE hE
  by_cases hp : pt ≤ E
  · go_wp2_with fail
    refine (WrapR_any _ _ _).mono ?_
    rintro e w2 ⟨rfl, rfl⟩
    dsimp only
    have hE3 := hE2.out
    rw [hE3]
    clear hE3
    go_wp2
    go_ret2
    refine ⟨_, _, rfl, ?_⟩
    rw [show (tonS 1 b 1 d 1 pt now) = ⟨1, b, 1, d, 1, d⟩ from ?_]
    · exact two_rows M1.out [1, b, 1, d] [1, d] 4 2 rfl rfl rfl rfl (by decide) (by decide)
    · simp [tonS]
  · go_wp2_with fail
    refine (WrapR_any _ _ _).mono ?_
    rintro e w2 ⟨rfl, rfl⟩
    dsimp only
    have hE3 := hE2.out
    rw [hE3]
    clear hE3
    go_wp2
    go_ret2
    refine ⟨_, _, rfl, ?_⟩
    rw [show (tonS 1 b 1 d 1 pt now) = ⟨1, b, 1, d, 1, d⟩ from ?_]
    · exact two_rows M1.out [1, b, 1, d] [1, d] 4 2 rfl rfl rfl rfl (by decide) (by decide)
    · simp [tonS]
set_option maxRecDepth 100000 in
set_option maxHeartbeats 3200000 in
theorem tmr_tof_ac1 {w0 w : World} {Ks : List Box} {Os : List Row} {gs cs : Nat} {a b c d pt now : Int} (h : Mem w0 w Ks Os) (hr : Rd w 1 (some ⟨gs, 0, none⟩) 4 (ints [a, b, c, d])) (_hn : 0 ≤ now ∧ now ≤ 4294967295) (_hb : 0 ≤ b ∧ b ≤ 4294967295) :
    Calls Tryd.prog 24 #[.string ⟨#[116, 111, 102]⟩, .slice (some ⟨gs, 0, none⟩) 4 cs, .bool true, .int .i64 pt, .int .i64 now] w fun e w' => ∃ g2 g3, e = .returned (.tuple #[.slice (some ⟨g2, 0, none⟩) 4 4, .slice (some ⟨g3, 0, none⟩) 2 2]) ∧ Mem w0 w' Ks (⟨3, 1, some ⟨g3, 0, none⟩, 2, 2, ints [(tofS a b c d 1 pt now).q, (tofS a b c d 1 pt now).e]⟩ :: ⟨3, 1, some ⟨g2, 0, none⟩, 4, 4, ints [(tofS a b c d 1 pt now).a, (tofS a b c d 1 pt now).b, (tofS a b c d 1 pt now).c, (tofS a b c d 1 pt now).d]⟩ :: Os) := by
  have r0 : w.cell? ⟨gs, 0, none⟩ = some (.int .i64 a) := rd_cells hr (by decide) 0 _ rfl
  have r1 : w.cell? ⟨gs, 1, none⟩ = some (.int .i64 b) := rd_cells hr (by decide) 1 _ rfl
  have r2 : w.cell? ⟨gs, 2, none⟩ = some (.int .i64 c) := rd_cells hr (by decide) 2 _ rfl
  have r3 : w.cell? ⟨gs, 3, none⟩ = some (.int .i64 d) := rd_cells hr (by decide) 3 _ rfl
  have M := Lib.hid h
  have s0 : ((⟨#[116, 111, 102]⟩ : ByteArray).toList == [116, 111, 110]) = false := str_ne (by decide)
  have s1 : ((⟨#[116, 111, 102]⟩ : ByteArray).toList == [116, 111, 102]) = true := str_eq rfl
  clear h hr
  go_enter Tryd.func24, Tryd.ntmps24
  go_upto_region 1 with fail
  go_quiet (fail)
  have M1 := Lib.hid (M.out.drewN nq)
  clear M r0 r1 r2 r3
  generalize w.drewN nq = w1 at M1 ⊢
  go_wp2_with (fail)
  go_ret2
  refine ⟨_, _, rfl, ?_⟩
  rw [show (tofS a b c d 1 pt now) = ⟨0, 0, 1, 0, 1, 0⟩ from ?_]
  · exact two_rows M1.out [0, 0, 1, 0] [1, 0] 4 2 rfl rfl rfl rfl (by decide) (by decide)
  · simp [tofS]
set_option maxRecDepth 100000 in
set_option maxHeartbeats 3200000 in
theorem tmr_tof_a00 {w0 w : World} {Ks : List Box} {Os : List Row} {gs cs : Nat} {a b d pt now : Int} (h : Mem w0 w Ks Os) (hr : Rd w 1 (some ⟨gs, 0, none⟩) 4 (ints [a, b, 0, d])) (_hn : 0 ≤ now ∧ now ≤ 4294967295) (_hb : 0 ≤ b ∧ b ≤ 4294967295) :
    Calls Tryd.prog 24 #[.string ⟨#[116, 111, 102]⟩, .slice (some ⟨gs, 0, none⟩) 4 cs, .bool false, .int .i64 pt, .int .i64 now] w fun e w' => ∃ g2 g3, e = .returned (.tuple #[.slice (some ⟨g2, 0, none⟩) 4 4, .slice (some ⟨g3, 0, none⟩) 2 2]) ∧ Mem w0 w' Ks (⟨3, 1, some ⟨g3, 0, none⟩, 2, 2, ints [(tofS a b 0 d 0 pt now).q, (tofS a b 0 d 0 pt now).e]⟩ :: ⟨3, 1, some ⟨g2, 0, none⟩, 4, 4, ints [(tofS a b 0 d 0 pt now).a, (tofS a b 0 d 0 pt now).b, (tofS a b 0 d 0 pt now).c, (tofS a b 0 d 0 pt now).d]⟩ :: Os) := by
  have r0 : w.cell? ⟨gs, 0, none⟩ = some (.int .i64 a) := rd_cells hr (by decide) 0 _ rfl
  have r1 : w.cell? ⟨gs, 1, none⟩ = some (.int .i64 b) := rd_cells hr (by decide) 1 _ rfl
  have r2 : w.cell? ⟨gs, 2, none⟩ = some (.int .i64 0) := rd_cells hr (by decide) 2 _ rfl
  have r3 : w.cell? ⟨gs, 3, none⟩ = some (.int .i64 d) := rd_cells hr (by decide) 3 _ rfl
  have M := Lib.hid h
  have s0 : ((⟨#[116, 111, 102]⟩ : ByteArray).toList == [116, 111, 110]) = false := str_ne (by decide)
  have s1 : ((⟨#[116, 111, 102]⟩ : ByteArray).toList == [116, 111, 102]) = true := str_eq rfl
  clear h hr
  go_enter Tryd.func24, Tryd.ntmps24
  go_upto_region 1 with fail
  go_quiet (fail)
  have M1 := Lib.hid (M.out.drewN nq)
  clear M r0 r1 r2 r3
  generalize w.drewN nq = w1 at M1 ⊢
  go_wp2_with (fail)
  go_ret2
  refine ⟨_, _, rfl, ?_⟩
  rw [show (tofS a b 0 d 0 pt now) = ⟨a, b, 0, d, 0, d⟩ from ?_]
  · exact two_rows M1.out [a, b, 0, d] [0, d] 4 2 rfl rfl rfl rfl (by decide) (by decide)
  · simp [tofS]
set_option maxRecDepth 100000 in
set_option maxHeartbeats 3200000 in
theorem tmr_tof_010 {w0 w : World} {Ks : List Box} {Os : List Row} {gs cs : Nat} {b d pt now : Int} (h : Mem w0 w Ks Os) (hr : Rd w 1 (some ⟨gs, 0, none⟩) 4 (ints [0, b, 1, d])) (_hn : 0 ≤ now ∧ now ≤ 4294967295) (_hb : 0 ≤ b ∧ b ≤ 4294967295) :
    Calls Tryd.prog 24 #[.string ⟨#[116, 111, 102]⟩, .slice (some ⟨gs, 0, none⟩) 4 cs, .bool false, .int .i64 pt, .int .i64 now] w fun e w' => ∃ g2 g3, e = .returned (.tuple #[.slice (some ⟨g2, 0, none⟩) 4 4, .slice (some ⟨g3, 0, none⟩) 2 2]) ∧ Mem w0 w' Ks (⟨3, 1, some ⟨g3, 0, none⟩, 2, 2, ints [(tofS 0 b 1 d 0 pt now).q, (tofS 0 b 1 d 0 pt now).e]⟩ :: ⟨3, 1, some ⟨g2, 0, none⟩, 4, 4, ints [(tofS 0 b 1 d 0 pt now).a, (tofS 0 b 1 d 0 pt now).b, (tofS 0 b 1 d 0 pt now).c, (tofS 0 b 1 d 0 pt now).d]⟩ :: Os) := by
  have r0 : w.cell? ⟨gs, 0, none⟩ = some (.int .i64 0) := rd_cells hr (by decide) 0 _ rfl
  have r1 : w.cell? ⟨gs, 1, none⟩ = some (.int .i64 b) := rd_cells hr (by decide) 1 _ rfl
  have r2 : w.cell? ⟨gs, 2, none⟩ = some (.int .i64 1) := rd_cells hr (by decide) 2 _ rfl
  have r3 : w.cell? ⟨gs, 3, none⟩ = some (.int .i64 d) := rd_cells hr (by decide) 3 _ rfl
  have M := Lib.hid h
  have s0 : ((⟨#[116, 111, 102]⟩ : ByteArray).toList == [116, 111, 110]) = false := str_ne (by decide)
  have s1 : ((⟨#[116, 111, 102]⟩ : ByteArray).toList == [116, 111, 102]) = true := str_eq rfl
  have hw : IntKind.i64.wrap (now - now) = now - now := by simp [IntKind.wrap, IntKind.bits, IntKind.signed]
  have HE : Hid (∃ E, wrapF 5 (now - now) = E) := ⟨_, rfl⟩
  clear h hr
  go_enter Tryd.func24, Tryd.ntmps24
  go_upto_region 1 with fail
  go_quiet (fail)
  have M1 := Lib.hid (M.out.drewN nq)
  clear M r0 r1 r2 r3
  generalize w.drewN nq = w1 at M1 ⊢
  obtain ⟨E, hE⟩ := HE.out
  have hE2 := Lib.hid hE
  clear HE hE
  by_cases hp : pt ≤ E
  · go_wp2_with fail
    refine (WrapR_any _ _ _).mono ?_
    rintro e w2 ⟨rfl, rfl⟩
    dsimp only
    have hE3 := hE2.out
    rw [show wrapF 5 0 = E from by rw [← hE3, Int.sub_self]]
    clear hE3
    go_wp2
    go_ret2
    refine ⟨_, _, rfl, ?_⟩
    rw [show (tofS 0 b 1 d 0 pt now) = ⟨0, 0, 0, pt, 0, pt⟩ from ?_]
    · exact two_rows M1.out [0, 0, 0, pt] [0, pt] 4 2 rfl rfl rfl rfl (by decide) (by decide)
    · simp [tofS, far_hi hE2.out (show pt ≤ E by omega)]
  · go_wp2_with fail
    refine (WrapR_any _ _ _).mono ?_
    rintro e w2 ⟨rfl, rfl⟩
    dsimp only
    have hE3 := hE2.out
    rw [show wrapF 5 0 = E from by rw [← hE3, Int.sub_self]]
    clear hE3
    go_wp2
    go_ret2
    refine ⟨_, _, rfl, ?_⟩
    rw [show (tofS 0 b 1 d 0 pt now) = ⟨1, now, 1, E, 1, E⟩ from ?_]
    · exact two_rows M1.out [1, now, 1, E] [1, E] 4 2 rfl rfl rfl rfl (by decide) (by decide)
    · have hq := far_lo hE2.out (show ¬ pt ≤ E by omega)
      have hq2 : ¬ E = pt := by omega
      simp [tofS, hq.1, hq2]
set_option maxRecDepth 100000 in
set_option maxHeartbeats 3200000 in
theorem tmr_tof_110 {w0 w : World} {Ks : List Box} {Os : List Row} {gs cs : Nat} {b d pt now : Int} (h : Mem w0 w Ks Os) (hr : Rd w 1 (some ⟨gs, 0, none⟩) 4 (ints [1, b, 1, d])) (hn : 0 ≤ now ∧ now ≤ 4294967295) (hb : 0 ≤ b ∧ b ≤ 4294967295) :
    Calls Tryd.prog 24 #[.string ⟨#[116, 111, 102]⟩, .slice (some ⟨gs, 0, none⟩) 4 cs, .bool false, .int .i64 pt, .int .i64 now] w fun e w' => ∃ g2 g3, e = .returned (.tuple #[.slice (some ⟨g2, 0, none⟩) 4 4, .slice (some ⟨g3, 0, none⟩) 2 2]) ∧ Mem w0 w' Ks (⟨3, 1, some ⟨g3, 0, none⟩, 2, 2, ints [(tofS 1 b 1 d 0 pt now).q, (tofS 1 b 1 d 0 pt now).e]⟩ :: ⟨3, 1, some ⟨g2, 0, none⟩, 4, 4, ints [(tofS 1 b 1 d 0 pt now).a, (tofS 1 b 1 d 0 pt now).b, (tofS 1 b 1 d 0 pt now).c, (tofS 1 b 1 d 0 pt now).d]⟩ :: Os) := by
  have r0 : w.cell? ⟨gs, 0, none⟩ = some (.int .i64 1) := rd_cells hr (by decide) 0 _ rfl
  have r1 : w.cell? ⟨gs, 1, none⟩ = some (.int .i64 b) := rd_cells hr (by decide) 1 _ rfl
  have r2 : w.cell? ⟨gs, 2, none⟩ = some (.int .i64 1) := rd_cells hr (by decide) 2 _ rfl
  have r3 : w.cell? ⟨gs, 3, none⟩ = some (.int .i64 d) := rd_cells hr (by decide) 3 _ rfl
  have M := Lib.hid h
  have s0 : ((⟨#[116, 111, 102]⟩ : ByteArray).toList == [116, 111, 110]) = false := str_ne (by decide)
  have s1 : ((⟨#[116, 111, 102]⟩ : ByteArray).toList == [116, 111, 102]) = true := str_eq rfl
  have hw : IntKind.i64.wrap (now - b) = now - b := by simp [IntKind.wrap, IntKind.bits, IntKind.signed]; omega
  have HE : Hid (∃ E, wrapF 5 (now - b) = E) := ⟨_, rfl⟩
  clear h hr
  go_enter Tryd.func24, Tryd.ntmps24
  go_upto_region 1 with fail
  go_quiet (fail)
  have M1 := Lib.hid (M.out.drewN nq)
  clear M r0 r1 r2 r3
  generalize w.drewN nq = w1 at M1 ⊢
  obtain ⟨E, hE⟩ := HE.out
  have hE2 := Lib.hid hE
  clear HE hE
  by_cases hp : pt ≤ E
  · go_wp2_with fail
    refine (WrapR_any _ _ _).mono ?_
    rintro e w2 ⟨rfl, rfl⟩
    dsimp only
    have hE3 := hE2.out
    rw [hE3]
    clear hE3
    go_wp2
    go_ret2
    refine ⟨_, _, rfl, ?_⟩
    rw [show (tofS 1 b 1 d 0 pt now) = ⟨0, 0, 0, pt, 0, pt⟩ from ?_]
    · exact two_rows M1.out [0, 0, 0, pt] [0, pt] 4 2 rfl rfl rfl rfl (by decide) (by decide)
    · simp [tofS, far_hi hE2.out (show pt ≤ E by omega)]
  · go_wp2_with fail
    refine (WrapR_any _ _ _).mono ?_
    rintro e w2 ⟨rfl, rfl⟩
    dsimp only
    have hE3 := hE2.out
    rw [hE3]
    clear hE3
    go_wp2
    go_ret2
    refine ⟨_, _, rfl, ?_⟩
    rw [show (tofS 1 b 1 d 0 pt now) = ⟨1, b, 1, E, 1, E⟩ from ?_]
    · exact two_rows M1.out [1, b, 1, E] [1, E] 4 2 rfl rfl rfl rfl (by decide) (by decide)
    · have hq := far_lo hE2.out (show ¬ pt ≤ E by omega)
      have hq2 : ¬ E = pt := by omega
      simp [tofS, hq.1, hq2]
set_option maxRecDepth 100000 in
set_option maxHeartbeats 3200000 in
theorem tmr_tp_001 {w0 w : World} {Ks : List Box} {Os : List Row} {gs cs : Nat} {b d pt now : Int} (h : Mem w0 w Ks Os) (hr : Rd w 1 (some ⟨gs, 0, none⟩) 4 (ints [0, b, 0, d])) (_hn : 0 ≤ now ∧ now ≤ 4294967295) (_hb : 0 ≤ b ∧ b ≤ 4294967295) :
    Calls Tryd.prog 24 #[.string ⟨#[116, 112]⟩, .slice (some ⟨gs, 0, none⟩) 4 cs, .bool true, .int .i64 pt, .int .i64 now] w fun e w' => ∃ g2 g3, e = .returned (.tuple #[.slice (some ⟨g2, 0, none⟩) 4 4, .slice (some ⟨g3, 0, none⟩) 2 2]) ∧ Mem w0 w' Ks (⟨3, 1, some ⟨g3, 0, none⟩, 2, 2, ints [(tpS 0 b 0 d 1 pt now).q, (tpS 0 b 0 d 1 pt now).e]⟩ :: ⟨3, 1, some ⟨g2, 0, none⟩, 4, 4, ints [(tpS 0 b 0 d 1 pt now).a, (tpS 0 b 0 d 1 pt now).b, (tpS 0 b 0 d 1 pt now).c, (tpS 0 b 0 d 1 pt now).d]⟩ :: Os) := by
  have r0 : w.cell? ⟨gs, 0, none⟩ = some (.int .i64 0) := rd_cells hr (by decide) 0 _ rfl
  have r1 : w.cell? ⟨gs, 1, none⟩ = some (.int .i64 b) := rd_cells hr (by decide) 1 _ rfl
  have r2 : w.cell? ⟨gs, 2, none⟩ = some (.int .i64 0) := rd_cells hr (by decide) 2 _ rfl
  have r3 : w.cell? ⟨gs, 3, none⟩ = some (.int .i64 d) := rd_cells hr (by decide) 3 _ rfl
  have M := Lib.hid h
  have s0 : ((⟨#[116, 112]⟩ : ByteArray).toList == [116, 111, 110]) = false := str_ne (by decide)
  have s1 : ((⟨#[116, 112]⟩ : ByteArray).toList == [116, 111, 102]) = false := str_ne (by decide)
  have hw : IntKind.i64.wrap (now - now) = now - now := by simp [IntKind.wrap, IntKind.bits, IntKind.signed]
  have HE : Hid (∃ E, wrapF 5 (now - now) = E) := ⟨_, rfl⟩
  clear h hr
  go_enter Tryd.func24, Tryd.ntmps24
  go_upto_region 1 with fail
  go_quiet (fail)
  have M1 := Lib.hid (M.out.drewN nq)
  clear M r0 r1 r2 r3
  generalize w.drewN nq = w1 at M1 ⊢
  obtain ⟨E, hE⟩ := HE.out
  have hE2 := Lib.hid hE
  clear HE hE
  by_cases hp : pt ≤ E
  · go_wp2_with fail
    refine (WrapR_any _ _ _).mono ?_
    rintro e w2 ⟨rfl, rfl⟩
    dsimp only
    have hE3 := hE2.out
    rw [show wrapF 5 0 = E from by rw [← hE3, Int.sub_self]]
    clear hE3
    go_wp2_with (go_at_call 26; refine (yes_any _ _).mono ?_; rintro e wy ⟨rfl, rfl⟩; dsimp only [yesI])
    go_ret2
    refine ⟨_, _, rfl, ?_⟩
    rw [show (tpS 0 b 0 d 1 pt now) = ⟨0, 0, 1, pt, 0, pt⟩ from ?_]
    · exact two_rows M1.out [0, 0, 1, pt] [0, pt] 4 2 rfl rfl rfl rfl (by decide) (by decide)
    · simp [tpS, far_hi hE2.out (show pt ≤ E by omega)]
  · go_wp2_with fail
    refine (WrapR_any _ _ _).mono ?_
    rintro e w2 ⟨rfl, rfl⟩
    dsimp only
    have hE3 := hE2.out
    rw [show wrapF 5 0 = E from by rw [← hE3, Int.sub_self]]
    clear hE3
    go_wp2_with (go_at_call 26; refine (yes_any _ _).mono ?_; rintro e wy ⟨rfl, rfl⟩; dsimp only [yesI])
    go_ret2
    refine ⟨_, _, rfl, ?_⟩
    rw [show (tpS 0 b 0 d 1 pt now) = ⟨1, now, 1, E, 1, E⟩ from ?_]
    · exact two_rows M1.out [1, now, 1, E] [1, E] 4 2 rfl rfl rfl rfl (by decide) (by decide)
    · have hq := far_lo hE2.out (show ¬ pt ≤ E by omega)
      have hq2 : ¬ E = pt := by omega
      simp [tpS, hq.1, hq2]
set_option maxRecDepth 100000 in
set_option maxHeartbeats 3200000 in
theorem tmr_tp_011 {w0 w : World} {Ks : List Box} {Os : List Row} {gs cs : Nat} {b d pt now : Int} (h : Mem w0 w Ks Os) (hr : Rd w 1 (some ⟨gs, 0, none⟩) 4 (ints [0, b, 1, d])) (hn : 0 ≤ now ∧ now ≤ 4294967295) (hb : 0 ≤ b ∧ b ≤ 4294967295) :
    Calls Tryd.prog 24 #[.string ⟨#[116, 112]⟩, .slice (some ⟨gs, 0, none⟩) 4 cs, .bool true, .int .i64 pt, .int .i64 now] w fun e w' => ∃ g2 g3, e = .returned (.tuple #[.slice (some ⟨g2, 0, none⟩) 4 4, .slice (some ⟨g3, 0, none⟩) 2 2]) ∧ Mem w0 w' Ks (⟨3, 1, some ⟨g3, 0, none⟩, 2, 2, ints [(tpS 0 b 1 d 1 pt now).q, (tpS 0 b 1 d 1 pt now).e]⟩ :: ⟨3, 1, some ⟨g2, 0, none⟩, 4, 4, ints [(tpS 0 b 1 d 1 pt now).a, (tpS 0 b 1 d 1 pt now).b, (tpS 0 b 1 d 1 pt now).c, (tpS 0 b 1 d 1 pt now).d]⟩ :: Os) := by
  have r0 : w.cell? ⟨gs, 0, none⟩ = some (.int .i64 0) := rd_cells hr (by decide) 0 _ rfl
  have r1 : w.cell? ⟨gs, 1, none⟩ = some (.int .i64 b) := rd_cells hr (by decide) 1 _ rfl
  have r2 : w.cell? ⟨gs, 2, none⟩ = some (.int .i64 1) := rd_cells hr (by decide) 2 _ rfl
  have r3 : w.cell? ⟨gs, 3, none⟩ = some (.int .i64 d) := rd_cells hr (by decide) 3 _ rfl
  have M := Lib.hid h
  have s0 : ((⟨#[116, 112]⟩ : ByteArray).toList == [116, 111, 110]) = false := str_ne (by decide)
  have s1 : ((⟨#[116, 112]⟩ : ByteArray).toList == [116, 111, 102]) = false := str_ne (by decide)
  have hw : IntKind.i64.wrap (now - b) = now - b := by simp [IntKind.wrap, IntKind.bits, IntKind.signed]; omega
  have HE : Hid (∃ E, wrapF 5 (now - b) = E) := ⟨_, rfl⟩
  clear h hr
  go_enter Tryd.func24, Tryd.ntmps24
  go_upto_region 1 with fail
  go_quiet (fail)
  have M1 := Lib.hid (M.out.drewN nq)
  clear M r0 r1 r2 r3
  generalize w.drewN nq = w1 at M1 ⊢
  obtain ⟨E, hE⟩ := HE.out
  have hE2 := Lib.hid hE
  clear HE hE
  by_cases hp : pt ≤ E
  · go_wp2_with fail
    refine (WrapR_any _ _ _).mono ?_
    rintro e w2 ⟨rfl, rfl⟩
    dsimp only
    have hE3 := hE2.out
    rw [hE3]
    clear hE3
    go_wp2_with (go_at_call 26; refine (yes_any _ _).mono ?_; rintro e wy ⟨rfl, rfl⟩; dsimp only [yesI])
    go_ret2
    refine ⟨_, _, rfl, ?_⟩
    rw [show (tpS 0 b 1 d 1 pt now) = ⟨0, b, 1, d, 0, d⟩ from ?_]
    · exact two_rows M1.out [0, b, 1, d] [0, d] 4 2 rfl rfl rfl rfl (by decide) (by decide)
    · simp [tpS]
  · go_wp2_with fail
    refine (WrapR_any _ _ _).mono ?_
    rintro e w2 ⟨rfl, rfl⟩
    dsimp only
    have hE3 := hE2.out
    rw [hE3]
    clear hE3
    go_wp2_with (go_at_call 26; refine (yes_any _ _).mono ?_; rintro e wy ⟨rfl, rfl⟩; dsimp only [yesI])
    go_ret2
    refine ⟨_, _, rfl, ?_⟩
    rw [show (tpS 0 b 1 d 1 pt now) = ⟨0, b, 1, d, 0, d⟩ from ?_]
    · exact two_rows M1.out [0, b, 1, d] [0, d] 4 2 rfl rfl rfl rfl (by decide) (by decide)
    · simp [tpS]
set_option maxRecDepth 100000 in
set_option maxHeartbeats 3200000 in
theorem tmr_tp_0c0 {w0 w : World} {Ks : List Box} {Os : List Row} {gs cs : Nat} {b c d pt now : Int} (h : Mem w0 w Ks Os) (hr : Rd w 1 (some ⟨gs, 0, none⟩) 4 (ints [0, b, c, d])) (hn : 0 ≤ now ∧ now ≤ 4294967295) (hb : 0 ≤ b ∧ b ≤ 4294967295) :
    Calls Tryd.prog 24 #[.string ⟨#[116, 112]⟩, .slice (some ⟨gs, 0, none⟩) 4 cs, .bool false, .int .i64 pt, .int .i64 now] w fun e w' => ∃ g2 g3, e = .returned (.tuple #[.slice (some ⟨g2, 0, none⟩) 4 4, .slice (some ⟨g3, 0, none⟩) 2 2]) ∧ Mem w0 w' Ks (⟨3, 1, some ⟨g3, 0, none⟩, 2, 2, ints [(tpS 0 b c d 0 pt now).q, (tpS 0 b c d 0 pt now).e]⟩ :: ⟨3, 1, some ⟨g2, 0, none⟩, 4, 4, ints [(tpS 0 b c d 0 pt now).a, (tpS 0 b c d 0 pt now).b, (tpS 0 b c d 0 pt now).c, (tpS 0 b c d 0 pt now).d]⟩ :: Os) := by
  have r0 : w.cell? ⟨gs, 0, none⟩ = some (.int .i64 0) := rd_cells hr (by decide) 0 _ rfl
  have r1 : w.cell? ⟨gs, 1, none⟩ = some (.int .i64 b) := rd_cells hr (by decide) 1 _ rfl
  have r2 : w.cell? ⟨gs, 2, none⟩ = some (.int .i64 c) := rd_cells hr (by decide) 2 _ rfl
  have r3 : w.cell? ⟨gs, 3, none⟩ = some (.int .i64 d) := rd_cells hr (by decide) 3 _ rfl
  have M := Lib.hid h
  have s0 : ((⟨#[116, 112]⟩ : ByteArray).toList == [116, 111, 110]) = false := str_ne (by decide)
  have s1 : ((⟨#[116, 112]⟩ : ByteArray).toList == [116, 111, 102]) = false := str_ne (by decide)
  have hw : IntKind.i64.wrap (now - b) = now - b := by simp [IntKind.wrap, IntKind.bits, IntKind.signed]; omega
  have HE : Hid (∃ E, wrapF 5 (now - b) = E) := ⟨_, rfl⟩
  clear h hr
  go_enter Tryd.func24, Tryd.ntmps24
  go_upto_region 1 with fail
  go_quiet (fail)
  have M1 := Lib.hid (M.out.drewN nq)
  clear M r0 r1 r2 r3
  generalize w.drewN nq = w1 at M1 ⊢
  obtain ⟨E, hE⟩ := HE.out
  have hE2 := Lib.hid hE
  clear HE hE
  by_cases hp : pt ≤ E
  · go_wp2_with fail
    refine (WrapR_any _ _ _).mono ?_
    rintro e w2 ⟨rfl, rfl⟩
    dsimp only
    have hE3 := hE2.out
    rw [hE3]
    clear hE3
    go_wp2_with (go_at_call 26; refine (yes_any _ _).mono ?_; rintro e wy ⟨rfl, rfl⟩; dsimp only [yesI])
    go_ret2
    refine ⟨_, _, rfl, ?_⟩
    rw [show (tpS 0 b c d 0 pt now) = ⟨0, b, 0, 0, 0, 0⟩ from ?_]
    · exact two_rows M1.out [0, b, 0, 0] [0, 0] 4 2 rfl rfl rfl rfl (by decide) (by decide)
    · simp [tpS]
  · go_wp2_with fail
    refine (WrapR_any _ _ _).mono ?_
    rintro e w2 ⟨rfl, rfl⟩
    dsimp only
    have hE3 := hE2.out
    rw [hE3]
    clear hE3
    go_wp2_with (go_at_call 26; refine (yes_any _ _).mono ?_; rintro e wy ⟨rfl, rfl⟩; dsimp only [yesI])
    go_ret2
    refine ⟨_, _, rfl, ?_⟩
    rw [show (tpS 0 b c d 0 pt now) = ⟨0, b, 0, 0, 0, 0⟩ from ?_]
    · exact two_rows M1.out [0, b, 0, 0] [0, 0] 4 2 rfl rfl rfl rfl (by decide) (by decide)
    · simp [tpS]
set_option maxRecDepth 100000 in
set_option maxHeartbeats 3200000 in
theorem tmr_tp_1c0 {w0 w : World} {Ks : List Box} {Os : List Row} {gs cs : Nat} {b c d pt now : Int} (h : Mem w0 w Ks Os) (hr : Rd w 1 (some ⟨gs, 0, none⟩) 4 (ints [1, b, c, d])) (hn : 0 ≤ now ∧ now ≤ 4294967295) (hb : 0 ≤ b ∧ b ≤ 4294967295) :
    Calls Tryd.prog 24 #[.string ⟨#[116, 112]⟩, .slice (some ⟨gs, 0, none⟩) 4 cs, .bool false, .int .i64 pt, .int .i64 now] w fun e w' => ∃ g2 g3, e = .returned (.tuple #[.slice (some ⟨g2, 0, none⟩) 4 4, .slice (some ⟨g3, 0, none⟩) 2 2]) ∧ Mem w0 w' Ks (⟨3, 1, some ⟨g3, 0, none⟩, 2, 2, ints [(tpS 1 b c d 0 pt now).q, (tpS 1 b c d 0 pt now).e]⟩ :: ⟨3, 1, some ⟨g2, 0, none⟩, 4, 4, ints [(tpS 1 b c d 0 pt now).a, (tpS 1 b c d 0 pt now).b, (tpS 1 b c d 0 pt now).c, (tpS 1 b c d 0 pt now).d]⟩ :: Os) := by
  have r0 : w.cell? ⟨gs, 0, none⟩ = some (.int .i64 1) := rd_cells hr (by decide) 0 _ rfl
  have r1 : w.cell? ⟨gs, 1, none⟩ = some (.int .i64 b) := rd_cells hr (by decide) 1 _ rfl
  have r2 : w.cell? ⟨gs, 2, none⟩ = some (.int .i64 c) := rd_cells hr (by decide) 2 _ rfl
  have r3 : w.cell? ⟨gs, 3, none⟩ = some (.int .i64 d) := rd_cells hr (by decide) 3 _ rfl
  have M := Lib.hid h
  have s0 : ((⟨#[116, 112]⟩ : ByteArray).toList == [116, 111, 110]) = false := str_ne (by decide)
  have s1 : ((⟨#[116, 112]⟩ : ByteArray).toList == [116, 111, 102]) = false := str_ne (by decide)
  have hw : IntKind.i64.wrap (now - b) = now - b := by simp [IntKind.wrap, IntKind.bits, IntKind.signed]; omega
  have HE : Hid (∃ E, wrapF 5 (now - b) = E) := ⟨_, rfl⟩
  clear h hr
  go_enter Tryd.func24, Tryd.ntmps24
  go_upto_region 1 with fail
  go_quiet (fail)
  have M1 := Lib.hid (M.out.drewN nq)
  clear M r0 r1 r2 r3
  generalize w.drewN nq = w1 at M1 ⊢
  obtain ⟨E, hE⟩ := HE.out
  have hE2 := Lib.hid hE
  clear HE hE
  by_cases hp : pt ≤ E
  · go_wp2_with fail
    refine (WrapR_any _ _ _).mono ?_
    rintro e w2 ⟨rfl, rfl⟩
    dsimp only
    have hE3 := hE2.out
    rw [hE3]
    clear hE3
    go_wp2_with (go_at_call 26; refine (yes_any _ _).mono ?_; rintro e wy ⟨rfl, rfl⟩; dsimp only [yesI])
    go_ret2
    refine ⟨_, _, rfl, ?_⟩
    rw [show (tpS 1 b c d 0 pt now) = ⟨0, 0, 0, pt, 0, pt⟩ from ?_]
    · exact two_rows M1.out [0, 0, 0, pt] [0, pt] 4 2 rfl rfl rfl rfl (by decide) (by decide)
    · simp [tpS, far_hi hE2.out (show pt ≤ E by omega)]
  · go_wp2_with fail
    refine (WrapR_any _ _ _).mono ?_
    rintro e w2 ⟨rfl, rfl⟩
    dsimp only
    have hE3 := hE2.out
    rw [hE3]
    clear hE3
    go_wp2_with (go_at_call 26; refine (yes_any _ _).mono ?_; rintro e wy ⟨rfl, rfl⟩; dsimp only [yesI])
    go_ret2
    refine ⟨_, _, rfl, ?_⟩
    rw [show (tpS 1 b c d 0 pt now) = ⟨1, b, 0, E, 1, E⟩ from ?_]
    · exact two_rows M1.out [1, b, 0, E] [1, E] 4 2 rfl rfl rfl rfl (by decide) (by decide)
    · have hq := far_lo hE2.out (show ¬ pt ≤ E by omega)
      have hq2 : ¬ E = pt := by omega
      simp [tpS, hq.1, hq2]
set_option maxRecDepth 100000 in
set_option maxHeartbeats 3200000 in
theorem tmr_tp_101 {w0 w : World} {Ks : List Box} {Os : List Row} {gs cs : Nat} {b d pt now : Int} (h : Mem w0 w Ks Os) (hr : Rd w 1 (some ⟨gs, 0, none⟩) 4 (ints [1, b, 0, d])) (hn : 0 ≤ now ∧ now ≤ 4294967295) (hb : 0 ≤ b ∧ b ≤ 4294967295) :
    Calls Tryd.prog 24 #[.string ⟨#[116, 112]⟩, .slice (some ⟨gs, 0, none⟩) 4 cs, .bool true, .int .i64 pt, .int .i64 now] w fun e w' => ∃ g2 g3, e = .returned (.tuple #[.slice (some ⟨g2, 0, none⟩) 4 4, .slice (some ⟨g3, 0, none⟩) 2 2]) ∧ Mem w0 w' Ks (⟨3, 1, some ⟨g3, 0, none⟩, 2, 2, ints [(tpS 1 b 0 d 1 pt now).q, (tpS 1 b 0 d 1 pt now).e]⟩ :: ⟨3, 1, some ⟨g2, 0, none⟩, 4, 4, ints [(tpS 1 b 0 d 1 pt now).a, (tpS 1 b 0 d 1 pt now).b, (tpS 1 b 0 d 1 pt now).c, (tpS 1 b 0 d 1 pt now).d]⟩ :: Os) := by
  have r0 : w.cell? ⟨gs, 0, none⟩ = some (.int .i64 1) := rd_cells hr (by decide) 0 _ rfl
  have r1 : w.cell? ⟨gs, 1, none⟩ = some (.int .i64 b) := rd_cells hr (by decide) 1 _ rfl
  have r2 : w.cell? ⟨gs, 2, none⟩ = some (.int .i64 0) := rd_cells hr (by decide) 2 _ rfl
  have r3 : w.cell? ⟨gs, 3, none⟩ = some (.int .i64 d) := rd_cells hr (by decide) 3 _ rfl
  have M := Lib.hid h
  have s0 : ((⟨#[116, 112]⟩ : ByteArray).toList == [116, 111, 110]) = false := str_ne (by decide)
  have s1 : ((⟨#[116, 112]⟩ : ByteArray).toList == [116, 111, 102]) = false := str_ne (by decide)
  have hw : IntKind.i64.wrap (now - b) = now - b := by simp [IntKind.wrap, IntKind.bits, IntKind.signed]; omega
  have HE : Hid (∃ E, wrapF 5 (now - b) = E) := ⟨_, rfl⟩
  clear h hr
  go_enter Tryd.func24, Tryd.ntmps24
  go_upto_region 1 with fail
  go_quiet (fail)
  have M1 := Lib.hid (M.out.drewN nq)
  clear M r0 r1 r2 r3
  generalize w.drewN nq = w1 at M1 ⊢
  obtain ⟨E, hE⟩ := HE.out
  have hE2 := Lib.hid hE
  clear HE hE
  by_cases hp : pt ≤ E
  · go_wp2_with fail
    refine (WrapR_any _ _ _).mono ?_
    rintro e w2 ⟨rfl, rfl⟩
    dsimp only
    have hE3 := hE2.out
    rw [hE3]
    clear hE3
    go_wp2_with (go_at_call 26; refine (yes_any _ _).mono ?_; rintro e wy ⟨rfl, rfl⟩; dsimp only [yesI])
    go_ret2
    refine ⟨_, _, rfl, ?_⟩
    rw [show (tpS 1 b 0 d 1 pt now) = ⟨0, 0, 1, pt, 0, pt⟩ from ?_]
    · exact two_rows M1.out [0, 0, 1, pt] [0, pt] 4 2 rfl rfl rfl rfl (by decide) (by decide)
    · simp [tpS, far_hi hE2.out (show pt ≤ E by omega)]
  · go_wp2_with fail
    refine (WrapR_any _ _ _).mono ?_
    rintro e w2 ⟨rfl, rfl⟩
    dsimp only
    have hE3 := hE2.out
    rw [hE3]
    clear hE3
    go_wp2_with (go_at_call 26; refine (yes_any _ _).mono ?_; rintro e wy ⟨rfl, rfl⟩; dsimp only [yesI])
    go_ret2
    refine ⟨_, _, rfl, ?_⟩
    rw [show (tpS 1 b 0 d 1 pt now) = ⟨1, b, 1, E, 1, E⟩ from ?_]
    · exact two_rows M1.out [1, b, 1, E] [1, E] 4 2 rfl rfl rfl rfl (by decide) (by decide)
    · have hq := far_lo hE2.out (show ¬ pt ≤ E by omega)
      have hq2 : ¬ E = pt := by omega
      simp [tpS, hq.1, hq2]
set_option maxRecDepth 100000 in
set_option maxHeartbeats 3200000 in
theorem tmr_tp_111 {w0 w : World} {Ks : List Box} {Os : List Row} {gs cs : Nat} {b d pt now : Int} (h : Mem w0 w Ks Os) (hr : Rd w 1 (some ⟨gs, 0, none⟩) 4 (ints [1, b, 1, d])) (hn : 0 ≤ now ∧ now ≤ 4294967295) (hb : 0 ≤ b ∧ b ≤ 4294967295) :
    Calls Tryd.prog 24 #[.string ⟨#[116, 112]⟩, .slice (some ⟨gs, 0, none⟩) 4 cs, .bool true, .int .i64 pt, .int .i64 now] w fun e w' => ∃ g2 g3, e = .returned (.tuple #[.slice (some ⟨g2, 0, none⟩) 4 4, .slice (some ⟨g3, 0, none⟩) 2 2]) ∧ Mem w0 w' Ks (⟨3, 1, some ⟨g3, 0, none⟩, 2, 2, ints [(tpS 1 b 1 d 1 pt now).q, (tpS 1 b 1 d 1 pt now).e]⟩ :: ⟨3, 1, some ⟨g2, 0, none⟩, 4, 4, ints [(tpS 1 b 1 d 1 pt now).a, (tpS 1 b 1 d 1 pt now).b, (tpS 1 b 1 d 1 pt now).c, (tpS 1 b 1 d 1 pt now).d]⟩ :: Os) := by
  have r0 : w.cell? ⟨gs, 0, none⟩ = some (.int .i64 1) := rd_cells hr (by decide) 0 _ rfl
  have r1 : w.cell? ⟨gs, 1, none⟩ = some (.int .i64 b) := rd_cells hr (by decide) 1 _ rfl
  have r2 : w.cell? ⟨gs, 2, none⟩ = some (.int .i64 1) := rd_cells hr (by decide) 2 _ rfl
  have r3 : w.cell? ⟨gs, 3, none⟩ = some (.int .i64 d) := rd_cells hr (by decide) 3 _ rfl
  have M := Lib.hid h
  have s0 : ((⟨#[116, 112]⟩ : ByteArray).toList == [116, 111, 110]) = false := str_ne (by decide)
  have s1 : ((⟨#[116, 112]⟩ : ByteArray).toList == [116, 111, 102]) = false := str_ne (by decide)
  have hw : IntKind.i64.wrap (now - b) = now - b := by simp [IntKind.wrap, IntKind.bits, IntKind.signed]; omega
  have HE : Hid (∃ E, wrapF 5 (now - b) = E) := ⟨_, rfl⟩
  clear h hr
  go_enter Tryd.func24, Tryd.ntmps24
  go_upto_region 1 with fail
  go_quiet (fail)
  have M1 := Lib.hid (M.out.drewN nq)
  clear M r0 r1 r2 r3
  generalize w.drewN nq = w1 at M1 ⊢
  obtain ⟨E, hE⟩ := HE.out
  have hE2 := Lib.hid hE
  clear HE hE
  by_cases hp : pt ≤ E
  · go_wp2_with fail
    refine (WrapR_any _ _ _).mono ?_
    rintro e w2 ⟨rfl, rfl⟩
    dsimp only
    have hE3 := hE2.out
    rw [hE3]
    clear hE3
    go_wp2_with (go_at_call 26; refine (yes_any _ _).mono ?_; rintro e wy ⟨rfl, rfl⟩; dsimp only [yesI])
    go_ret2
    refine ⟨_, _, rfl, ?_⟩
    rw [show (tpS 1 b 1 d 1 pt now) = ⟨0, 0, 1, pt, 0, pt⟩ from ?_]
    · exact two_rows M1.out [0, 0, 1, pt] [0, pt] 4 2 rfl rfl rfl rfl (by decide) (by decide)
    · simp [tpS, far_hi hE2.out (show pt ≤ E by omega)]
  · go_wp2_with fail
    refine (WrapR_any _ _ _).mono ?_
    rintro e w2 ⟨rfl, rfl⟩
    dsimp only
    have hE3 := hE2.out
    rw [hE3]
    clear hE3
    go_wp2_with (go_at_call 26; refine (yes_any _ _).mono ?_; rintro e wy ⟨rfl, rfl⟩; dsimp only [yesI])
    go_ret2
    refine ⟨_, _, rfl, ?_⟩
    rw [show (tpS 1 b 1 d 1 pt now) = ⟨1, b, 1, E, 1, E⟩ from ?_]
    · exact two_rows M1.out [1, b, 1, E] [1, E] 4 2 rfl rfl rfl rfl (by decide) (by decide)
    · have hq := far_lo hE2.out (show ¬ pt ≤ E by omega)
      have hq2 : ¬ E = pt := by omega
      simp [tpS, hq.1, hq2]
theorem tmr_ton {w0 w : World} {Ks : List Box} {Os : List Row} {gs cs : Nat} {a b c d x pt now : Int} (h : Mem w0 w Ks Os) (hr : Rd w 1 (some ⟨gs, 0, none⟩) 4 (ints [a, b, c, d])) (ha : a = 0 ∨ a = 1) (hc : c = 0 ∨ c = 1) (hx : x = 0 ∨ x = 1) (hn : 0 ≤ now ∧ now ≤ 4294967295) (hb : 0 ≤ b ∧ b ≤ 4294967295) :
    Calls Tryd.prog 24 #[.string ⟨#[116, 111, 110]⟩, .slice (some ⟨gs, 0, none⟩) 4 cs, .bool (x == 1), .int .i64 pt, .int .i64 now] w fun e w' => ∃ g2 g3, e = .returned (.tuple #[.slice (some ⟨g2, 0, none⟩) 4 4, .slice (some ⟨g3, 0, none⟩) 2 2]) ∧ Mem w0 w' Ks (⟨3, 1, some ⟨g3, 0, none⟩, 2, 2, ints [(tonS a b c d x pt now).q, (tonS a b c d x pt now).e]⟩ :: ⟨3, 1, some ⟨g2, 0, none⟩, 4, 4, ints [(tonS a b c d x pt now).a, (tonS a b c d x pt now).b, (tonS a b c d x pt now).c, (tonS a b c d x pt now).d]⟩ :: Os) := by
  rcases ha with rfl | rfl <;> rcases hc with rfl | rfl <;> rcases hx with rfl | rfl
  · exact tmr_ton_ac0 h hr hn hb
  · exact tmr_ton_0c1 h hr hn hb
  · exact tmr_ton_ac0 h hr hn hb
  · exact tmr_ton_0c1 h hr hn hb
  · exact tmr_ton_ac0 h hr hn hb
  · exact tmr_ton_101 h hr hn hb
  · exact tmr_ton_ac0 h hr hn hb
  · exact tmr_ton_111 h hr hn hb
theorem tmr_tof {w0 w : World} {Ks : List Box} {Os : List Row} {gs cs : Nat} {a b c d x pt now : Int} (h : Mem w0 w Ks Os) (hr : Rd w 1 (some ⟨gs, 0, none⟩) 4 (ints [a, b, c, d])) (ha : a = 0 ∨ a = 1) (hc : c = 0 ∨ c = 1) (hx : x = 0 ∨ x = 1) (hn : 0 ≤ now ∧ now ≤ 4294967295) (hb : 0 ≤ b ∧ b ≤ 4294967295) :
    Calls Tryd.prog 24 #[.string ⟨#[116, 111, 102]⟩, .slice (some ⟨gs, 0, none⟩) 4 cs, .bool (x == 1), .int .i64 pt, .int .i64 now] w fun e w' => ∃ g2 g3, e = .returned (.tuple #[.slice (some ⟨g2, 0, none⟩) 4 4, .slice (some ⟨g3, 0, none⟩) 2 2]) ∧ Mem w0 w' Ks (⟨3, 1, some ⟨g3, 0, none⟩, 2, 2, ints [(tofS a b c d x pt now).q, (tofS a b c d x pt now).e]⟩ :: ⟨3, 1, some ⟨g2, 0, none⟩, 4, 4, ints [(tofS a b c d x pt now).a, (tofS a b c d x pt now).b, (tofS a b c d x pt now).c, (tofS a b c d x pt now).d]⟩ :: Os) := by
  rcases ha with rfl | rfl <;> rcases hc with rfl | rfl <;> rcases hx with rfl | rfl
  · exact tmr_tof_a00 h hr hn hb
  · exact tmr_tof_ac1 h hr hn hb
  · exact tmr_tof_010 h hr hn hb
  · exact tmr_tof_ac1 h hr hn hb
  · exact tmr_tof_a00 h hr hn hb
  · exact tmr_tof_ac1 h hr hn hb
  · exact tmr_tof_110 h hr hn hb
  · exact tmr_tof_ac1 h hr hn hb
theorem tmr_tp {w0 w : World} {Ks : List Box} {Os : List Row} {gs cs : Nat} {a b c d x pt now : Int} (h : Mem w0 w Ks Os) (hr : Rd w 1 (some ⟨gs, 0, none⟩) 4 (ints [a, b, c, d])) (ha : a = 0 ∨ a = 1) (hc : c = 0 ∨ c = 1) (hx : x = 0 ∨ x = 1) (hn : 0 ≤ now ∧ now ≤ 4294967295) (hb : 0 ≤ b ∧ b ≤ 4294967295) :
    Calls Tryd.prog 24 #[.string ⟨#[116, 112]⟩, .slice (some ⟨gs, 0, none⟩) 4 cs, .bool (x == 1), .int .i64 pt, .int .i64 now] w fun e w' => ∃ g2 g3, e = .returned (.tuple #[.slice (some ⟨g2, 0, none⟩) 4 4, .slice (some ⟨g3, 0, none⟩) 2 2]) ∧ Mem w0 w' Ks (⟨3, 1, some ⟨g3, 0, none⟩, 2, 2, ints [(tpS a b c d x pt now).q, (tpS a b c d x pt now).e]⟩ :: ⟨3, 1, some ⟨g2, 0, none⟩, 4, 4, ints [(tpS a b c d x pt now).a, (tpS a b c d x pt now).b, (tpS a b c d x pt now).c, (tpS a b c d x pt now).d]⟩ :: Os) := by
  rcases ha with rfl | rfl <;> rcases hc with rfl | rfl <;> rcases hx with rfl | rfl
  · exact tmr_tp_0c0 h hr hn hb
  · exact tmr_tp_001 h hr hn hb
  · exact tmr_tp_0c0 h hr hn hb
  · exact tmr_tp_011 h hr hn hb
  · exact tmr_tp_1c0 h hr hn hb
  · exact tmr_tp_101 h hr hn hb
  · exact tmr_tp_1c0 h hr hn hb
  · exact tmr_tp_111 h hr hn hb
end Go.Proofs.YthgjjclmepfbpaaDoor.Blk
