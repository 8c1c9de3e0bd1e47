/-
  The reference's BlockStep: ramp and hyst. Conditions: both lists read.
-/
import Derived.Test.YthgjjclmepfbpaaDoorBlkR4
namespace Go.Proofs.YthgjjclmepfbpaaDoor.Blk
open Go.RowKit Go.Proofs.YthgjjclmepfbpaaDoor.W Go.Proofs.YthgjjclmepfbpaaDoor.Ints Go.Proofs.YthgjjclmepfbpaaDoor.Cell Go.Proofs.YthgjjclmepfbpaaDoor.Num

set_option maxRecDepth 100000 in
set_option maxHeartbeats 12800000 in
theorem bs_ramp (A : Option Addr) (n c : Nat) (l : List Int) (A' : Option Addr) (n' c' : Nat) (l' : List Int) (now : Int) (w : World) (hr : Rd w 1 A n (ints l)) (hr' : Rd w 1 A' n' (ints l')) (a x y now' : Int) (hs : fitF l (pinsL b_ramp.st) = [a]) (hi : fitF l' (pinsL b_ramp.ins) = [x, y]) (hnow : wrapF 5 now = now') (_hnn : 0 ≤ now' ∧ now' ≤ 4294967295) (ha : -32768 ≤ a ∧ a ≤ 32767) (_hx : -32768 ≤ x ∧ x ≤ 32767) (hy : -32768 ≤ y ∧ y ≤ 32767) :
    Calls Tryd.prog 13 #[.string ⟨#[114, 97, 109, 112]⟩, .slice A n c, .slice A' n' c', .int .i64 now] w fun e w' => ∃ g2 g3, e = .returned (.tuple #[.slice (some ⟨g2, 0, none⟩) 1 1, .slice (some ⟨g3, 0, none⟩) 1 1]) ∧ ∃ Os, Mem w w' [] (⟨3, 1, some ⟨g3, 0, none⟩, 1, 1, ints [rampF a x y]⟩ :: ⟨3, 1, some ⟨g2, 0, none⟩, 1, 1, ints [rampF a x y]⟩ :: Os) := by
  have HSH : Hid (Calls Tryd.prog 8 #[.string ⟨#[114, 97, 109, 112]⟩] w _) := ref_reads (b := b_ramp) (by simp [bts]) 2 1 (by rw [ramp_ins]; rfl) (by rw [ramp_st]; rfl) w
  have HR := Lib.hid hr
  have HR' := Lib.hid hr'
  have HSI := Lib.hid (And.intro hs hi)
  have q0 : ((⟨#[114, 97, 109, 112]⟩ : ByteArray).toList == [116, 111, 110]) = false := str_ne (by decide)
  have q1 : ((⟨#[114, 97, 109, 112]⟩ : ByteArray).toList == [116, 111, 102]) = false := str_ne (by decide)
  have q2 : ((⟨#[114, 97, 109, 112]⟩ : ByteArray).toList == [116, 112]) = false := str_ne (by decide)
  have q3 : ((⟨#[114, 97, 109, 112]⟩ : ByteArray).toList == [99, 116, 117]) = false := str_ne (by decide)
  have q4 : ((⟨#[114, 97, 109, 112]⟩ : ByteArray).toList == [99, 116, 100]) = false := str_ne (by decide)
  have q5 : ((⟨#[114, 97, 109, 112]⟩ : ByteArray).toList == [99, 116, 117, 100]) = false := str_ne (by decide)
  have q6 : ((⟨#[114, 97, 109, 112]⟩ : ByteArray).toList == [114, 95, 116, 114, 105, 103]) = false := str_ne (by decide)
  have q7 : ((⟨#[114, 97, 109, 112]⟩ : ByteArray).toList == [102, 95, 116, 114, 105, 103]) = false := str_ne (by decide)
  have q8 : ((⟨#[114, 97, 109, 112]⟩ : ByteArray).toList == [115, 114]) = false := str_ne (by decide)
  have q9 : ((⟨#[114, 97, 109, 112]⟩ : ByteArray).toList == [114, 115]) = false := str_ne (by decide)
  have q10 : ((⟨#[114, 97, 109, 112]⟩ : ByteArray).toList == [114, 97, 109, 112]) = true := str_eq rfl
  have q11 : ((⟨#[114, 97, 109, 112]⟩ : ByteArray).toList == [104, 121, 115, 116]) = false := str_ne (by decide)
  clear hr hr' hs hi
  obtain ⟨R, hR⟩ : ∃ R, rampF a x y = R := ⟨_, rfl⟩
  rw [hR]
  have HRR := Lib.hid hR
  clear hR
  go_enter Tryd.func13, Tryd.ntmps13
  go_wp2_with fail
  refine HSH.out.mono ?_
  rintro e w1 ⟨g1, gx, g3, n2, rfl, hp1, hp3, hm⟩
  dsimp only
  have HP := Lib.hid (And.intro hp1 hp3)
  have M := Lib.hid hm
  clear hp1 hp3 hm HSH
  have c0 := (hm2 M.out g1 gx g3 2 n2 1).1
  have c2 := (hm2 M.out g1 gx g3 2 n2 1).2
  have M1 := Lib.hid (M.out.alloc 24 #[.slice (some ⟨g1, 0, none⟩) 2 2, .slice (some ⟨gx, 0, none⟩) n2 n2, .slice (some ⟨g3, 0, none⟩) 1 1])
  have HP1 := Lib.hid (And.intro (HP.out.1.alloc (.cells #[.slice (some ⟨g1, 0, none⟩) 2 2, .slice (some ⟨gx, 0, none⟩) n2 n2, .slice (some ⟨g3, 0, none⟩) 1 1] 24)) (HP.out.2.alloc (.cells #[.slice (some ⟨g1, 0, none⟩) 2 2, .slice (some ⟨gx, 0, none⟩) n2 n2, .slice (some ⟨g3, 0, none⟩) 1 1] 24)))
  clear M HP
  go_upto_region 4 with fail
  generalize World.alloc _ _ = w2 at M1 HP1 c0 c2 ⊢
  generalize w1.heap.size = gb at M1 c0 c2 ⊢
  go_wp2_with fail
  refine (taken_any A n c l _ 1 _ (pinsL b_ramp.st) w2 (HR.out.below M1.out.bel) HP1.out.2 (by decide)).mono ?_
  rintro e w3 ⟨gs, rfl, ho, hb⟩
  dsimp only
  have M3 := Lib.hid (M1.out.made hb ho)
  have HP3 := Lib.hid (HP1.out.1.below hb)
  have e0 : w3.cell? ⟨gb, 0, none⟩ = some (.slice (some ⟨g1, 0, none⟩) 2 2) := (hb.cell (lt_of_cell c0)).trans c0
  clear M1 HP1 c0 c2 ho hb
  go_wp2_with fail
  refine (taken_any A' n' c' l' _ 2 _ (pinsL b_ramp.ins) w3 (HR'.out.below M3.out.bel) HP3.out (by decide)).mono ?_
  rintro e w4 ⟨gi, rfl, ho, hb⟩
  dsimp only
  have M4 := Lib.hid (M3.out.made hb ho)
  clear M3 HP3 e0 ho hb
  go_wp2_with fail
  refine (WrapR_any 5 now w4).mono ?_
  rintro e w5 ⟨rfl, rfl⟩
  dsimp only
  rw [hnow]
  rw [HSI.out.1, HSI.out.2] at M4
  have M5 := Lib.hid (M4.out.delK 0)
  have HS : Hid (Rd w4 1 (some ⟨gs, 0, none⟩) 1 (ints [a])) := M5.out.rdO 1 rfl
  have HI : Hid (Rd w4 1 (some ⟨gi, 0, none⟩) 2 (ints [x, y])) := M5.out.rdO 0 rfl
  clear M4 HSI HR HR' hnow
  have s0 : w4.cell? ⟨gs, 0, none⟩ = some (.int .i64 a) := rd_cells HS.out (by decide) 0 _ rfl
  have i0 : w4.cell? ⟨gi, 0, none⟩ = some (.int .i64 x) := rd_cells HI.out (by decide) 0 _ rfl
  have i1 : w4.cell? ⟨gi, 1, none⟩ = some (.int .i64 y) := rd_cells HI.out (by decide) 1 _ rfl
  clear HS HI
  have hw1 : IntKind.i64.wrap (a + y) = a + y := by simp [IntKind.wrap, IntKind.bits, IntKind.signed]; omega
  have hw2 : IntKind.i64.wrap (a - y) = a - y := by simp [IntKind.wrap, IntKind.bits, IntKind.signed]; omega
  by_cases h1 : 0 < y
  · by_cases h2 : a < x
    · by_cases h3 : x < a + y
      · go_wp2
        go_ret2
        rw [show R = x from by rw [← HRR.out]; unfold rampF; omega]
        exact ⟨_, _, rfl, _, two_rows M5.out [x] [x] 1 1 rfl rfl rfl rfl (by decide) (by decide)⟩
      · go_wp2
        go_ret2
        rw [show R = a + y from by rw [← HRR.out]; unfold rampF; omega]
        exact ⟨_, _, rfl, _, two_rows M5.out [a + y] [a + y] 1 1 rfl rfl rfl rfl (by decide) (by decide)⟩
    · by_cases h4 : x < a
      · by_cases h3 : a - y < x
        · go_wp2
          go_ret2
          rw [show R = x from by rw [← HRR.out]; unfold rampF; omega]
          exact ⟨_, _, rfl, _, two_rows M5.out [x] [x] 1 1 rfl rfl rfl rfl (by decide) (by decide)⟩
        · go_wp2
          go_ret2
          rw [show R = a - y from by rw [← HRR.out]; unfold rampF; omega]
          exact ⟨_, _, rfl, _, two_rows M5.out [a - y] [a - y] 1 1 rfl rfl rfl rfl (by decide) (by decide)⟩
      · go_wp2
        go_ret2
        rw [show R = a from by rw [← HRR.out]; unfold rampF; omega]
        exact ⟨_, _, rfl, _, two_rows M5.out [a] [a] 1 1 rfl rfl rfl rfl (by decide) (by decide)⟩
  · go_wp2
    go_ret2
    rw [show R = a from by rw [← HRR.out]; unfold rampF; omega]
    exact ⟨_, _, rfl, _, two_rows M5.out [a] [a] 1 1 rfl rfl rfl rfl (by decide) (by decide)⟩
set_option maxRecDepth 100000 in
set_option maxHeartbeats 12800000 in
theorem bs_hyst (A : Option Addr) (n c : Nat) (l : List Int) (A' : Option Addr) (n' c' : Nat) (l' : List Int) (now : Int) (w : World) (hr : Rd w 1 A n (ints l)) (hr' : Rd w 1 A' n' (ints l')) (a x y z now' : Int) (hs : fitF l (pinsL b_hyst.st) = [a]) (hi : fitF l' (pinsL b_hyst.ins) = [x, y, z]) (hnow : wrapF 5 now = now') (_hnn : 0 ≤ now' ∧ now' ≤ 4294967295) (_ha : a = 0 ∨ a = 1) (_hx : -32768 ≤ x ∧ x ≤ 32767) (_hy : -32768 ≤ y ∧ y ≤ 32767) (_hz : -32768 ≤ z ∧ z ≤ 32767) :
    Calls Tryd.prog 13 #[.string ⟨#[104, 121, 115, 116]⟩, .slice A n c, .slice A' n' c', .int .i64 now] w fun e w' => ∃ g2 g3, e = .returned (.tuple #[.slice (some ⟨g2, 0, none⟩) 1 1, .slice (some ⟨g3, 0, none⟩) 1 1]) ∧ ∃ Os, Mem w w' [] (⟨3, 1, some ⟨g3, 0, none⟩, 1, 1, ints [hystF a x y z]⟩ :: ⟨3, 1, some ⟨g2, 0, none⟩, 1, 1, ints [hystF a x y z]⟩ :: Os) := by
  have HSH : Hid (Calls Tryd.prog 8 #[.string ⟨#[104, 121, 115, 116]⟩] w _) := ref_reads (b := b_hyst) (by simp [bts]) 3 1 (by rw [hyst_ins]; rfl) (by rw [hyst_st]; rfl) w
  have HR := Lib.hid hr
  have HR' := Lib.hid hr'
  have HSI := Lib.hid (And.intro hs hi)
  have q0 : ((⟨#[104, 121, 115, 116]⟩ : ByteArray).toList == [116, 111, 110]) = false := str_ne (by decide)
  have q1 : ((⟨#[104, 121, 115, 116]⟩ : ByteArray).toList == [116, 111, 102]) = false := str_ne (by decide)
  have q2 : ((⟨#[104, 121, 115, 116]⟩ : ByteArray).toList == [116, 112]) = false := str_ne (by decide)
  have q3 : ((⟨#[104, 121, 115, 116]⟩ : ByteArray).toList == [99, 116, 117]) = false := str_ne (by decide)
  have q4 : ((⟨#[104, 121, 115, 116]⟩ : ByteArray).toList == [99, 116, 100]) = false := str_ne (by decide)
  have q5 : ((⟨#[104, 121, 115, 116]⟩ : ByteArray).toList == [99, 116, 117, 100]) = false := str_ne (by decide)
  have q6 : ((⟨#[104, 121, 115, 116]⟩ : ByteArray).toList == [114, 95, 116, 114, 105, 103]) = false := str_ne (by decide)
  have q7 : ((⟨#[104, 121, 115, 116]⟩ : ByteArray).toList == [102, 95, 116, 114, 105, 103]) = false := str_ne (by decide)
  have q8 : ((⟨#[104, 121, 115, 116]⟩ : ByteArray).toList == [115, 114]) = false := str_ne (by decide)
  have q9 : ((⟨#[104, 121, 115, 116]⟩ : ByteArray).toList == [114, 115]) = false := str_ne (by decide)
  have q10 : ((⟨#[104, 121, 115, 116]⟩ : ByteArray).toList == [114, 97, 109, 112]) = false := str_ne (by decide)
  have q11 : ((⟨#[104, 121, 115, 116]⟩ : ByteArray).toList == [104, 121, 115, 116]) = true := str_eq rfl
  clear hr hr' hs hi
  obtain ⟨R, hR⟩ : ∃ R, hystF a x y z = R := ⟨_, rfl⟩
  rw [hR]
  have HRR := Lib.hid hR
  clear hR
  go_enter Tryd.func13, Tryd.ntmps13
  go_wp2_with fail
  refine HSH.out.mono ?_
  rintro e w1 ⟨g1, gx, g3, n2, rfl, hp1, hp3, hm⟩
  dsimp only
  have HP := Lib.hid (And.intro hp1 hp3)
  have M := Lib.hid hm
  clear hp1 hp3 hm HSH
  have c0 := (hm2 M.out g1 gx g3 3 n2 1).1
  have c2 := (hm2 M.out g1 gx g3 3 n2 1).2
  have M1 := Lib.hid (M.out.alloc 24 #[.slice (some ⟨g1, 0, none⟩) 3 3, .slice (some ⟨gx, 0, none⟩) n2 n2, .slice (some ⟨g3, 0, none⟩) 1 1])
  have HP1 := Lib.hid (And.intro (HP.out.1.alloc (.cells #[.slice (some ⟨g1, 0, none⟩) 3 3, .slice (some ⟨gx, 0, none⟩) n2 n2, .slice (some ⟨g3, 0, none⟩) 1 1] 24)) (HP.out.2.alloc (.cells #[.slice (some ⟨g1, 0, none⟩) 3 3, .slice (some ⟨gx, 0, none⟩) n2 n2, .slice (some ⟨g3, 0, none⟩) 1 1] 24)))
  clear M HP
  go_upto_region 4 with fail
  generalize World.alloc _ _ = w2 at M1 HP1 c0 c2 ⊢
  generalize w1.heap.size = gb at M1 c0 c2 ⊢
  go_wp2_with fail
  refine (taken_any A n c l _ 1 _ (pinsL b_hyst.st) w2 (HR.out.below M1.out.bel) HP1.out.2 (by decide)).mono ?_
  rintro e w3 ⟨gs, rfl, ho, hb⟩
  dsimp only
  have M3 := Lib.hid (M1.out.made hb ho)
  have HP3 := Lib.hid (HP1.out.1.below hb)
  have e0 : w3.cell? ⟨gb, 0, none⟩ = some (.slice (some ⟨g1, 0, none⟩) 3 3) := (hb.cell (lt_of_cell c0)).trans c0
  clear M1 HP1 c0 c2 ho hb
  go_wp2_with fail
  refine (taken_any A' n' c' l' _ 3 _ (pinsL b_hyst.ins) w3 (HR'.out.below M3.out.bel) HP3.out (by decide)).mono ?_
  rintro e w4 ⟨gi, rfl, ho, hb⟩
  dsimp only
  have M4 := Lib.hid (M3.out.made hb ho)
  clear M3 HP3 e0 ho hb
  go_wp2_with fail
  refine (WrapR_any 5 now w4).mono ?_
  rintro e w5 ⟨rfl, rfl⟩
  dsimp only
  rw [hnow]
  rw [HSI.out.1, HSI.out.2] at M4
  have M5 := Lib.hid (M4.out.delK 0)
  have HS : Hid (Rd w4 1 (some ⟨gs, 0, none⟩) 1 (ints [a])) := M5.out.rdO 1 rfl
  have HI : Hid (Rd w4 1 (some ⟨gi, 0, none⟩) 3 (ints [x, y, z])) := M5.out.rdO 0 rfl
  clear M4 HSI HR HR' hnow
  have s0 : w4.cell? ⟨gs, 0, none⟩ = some (.int .i64 a) := rd_cells HS.out (by decide) 0 _ rfl
  have i0 : w4.cell? ⟨gi, 0, none⟩ = some (.int .i64 x) := rd_cells HI.out (by decide) 0 _ rfl
  have i1 : w4.cell? ⟨gi, 1, none⟩ = some (.int .i64 y) := rd_cells HI.out (by decide) 1 _ rfl
  have i2 : w4.cell? ⟨gi, 2, none⟩ = some (.int .i64 z) := rd_cells HI.out (by decide) 2 _ rfl
  clear HS HI
  go_upto_region 38 with fail
  by_cases h1 : y ≤ x
  · go_quiet (fail)
    have M6 := Lib.hid (M5.out.drewN nq)
    go_wp2
    go_ret2
    rw [show R = 1 from by rw [← HRR.out]; unfold hystF; rw [if_pos (by omega)]]
    exact ⟨_, _, rfl, _, two_rows M6.out [1] [1] 1 1 rfl rfl rfl rfl (by decide) (by decide)⟩
  · by_cases h2 : x ≤ z
    · go_quiet (fail)
      have M6 := Lib.hid (M5.out.drewN nq)
      have j0 : (w4.drewN nq).cell? ⟨gi, 0, none⟩ = some (.int .i64 x) := i0
      have j2 : (w4.drewN nq).cell? ⟨gi, 2, none⟩ = some (.int .i64 z) := i2
      clear M5 i0 i1 i2 s0
      generalize w4.drewN nq = w7 at M6 j0 j2 ⊢
      go_upto_region 40 with fail
      go_quiet (fail)
      have M7 := Lib.hid (M6.out.drewN nq)
      go_wp2
      go_ret2
      rw [show R = 0 from by rw [← HRR.out]; unfold hystF; rw [if_neg (by omega), if_pos (by omega)]]
      exact ⟨_, _, rfl, _, two_rows M7.out [0] [0] 1 1 rfl rfl rfl rfl (by decide) (by decide)⟩
    · go_quiet (fail)
      have M6 := Lib.hid (M5.out.drewN nq)
      have j0 : (w4.drewN nq).cell? ⟨gi, 0, none⟩ = some (.int .i64 x) := i0
      have j2 : (w4.drewN nq).cell? ⟨gi, 2, none⟩ = some (.int .i64 z) := i2
      clear M5 i0 i1 i2 s0
      generalize w4.drewN nq = w7 at M6 j0 j2 ⊢
      go_upto_region 40 with fail
      go_quiet (fail)
      have M7 := Lib.hid (M6.out.drewN nq)
      go_wp2
      go_ret2
      rw [show R = a from by rw [← HRR.out]; unfold hystF; rw [if_neg (by omega), if_neg (by omega)]]
      exact ⟨_, _, rfl, _, two_rows M7.out [a] [a] 1 1 rfl rfl rfl rfl (by decide) (by decide)⟩
end Go.Proofs.YthgjjclmepfbpaaDoor.Blk
