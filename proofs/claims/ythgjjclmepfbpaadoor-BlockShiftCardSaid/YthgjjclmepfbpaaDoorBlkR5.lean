/-
  The reference's BlockStep: the timers. Conditions: both lists read.
-/
import Derived.Test.YthgjjclmepfbpaaDoorBlkR4
namespace Go.Proofs.YthgjjclmepfbpaaDoor.Blk
open Go.RowKit Go.Proofs.YthgjjclmepfbpaaDoor.W Go.Proofs.YthgjjclmepfbpaaDoor.Ints Go.Proofs.YthgjjclmepfbpaaDoor.Cell Go.Proofs.YthgjjclmepfbpaaDoor.Num

set_option maxRecDepth 100000 in
set_option maxHeartbeats 12800000 in
theorem bs_ton (A : Option Addr) (n c : Nat) (l : List Int) (A' : Option Addr) (n' c' : Nat) (l' : List Int) (now : Int) (w : World) (hr : Rd w 1 A n (ints l)) (hr' : Rd w 1 A' n' (ints l')) (a b c2 d x pt now' : Int) (hs : fitF l (pinsL b_ton.st) = [a, b, c2, d]) (hi : fitF l' (pinsL b_ton.ins) = [x, pt]) (hnow : wrapF 5 now = now') (hnn : 0 ≤ now' ∧ now' ≤ 4294967295) (ha : a = 0 ∨ a = 1) (hb : 0 ≤ b ∧ b ≤ 4294967295) (hc2 : c2 = 0 ∨ c2 = 1) (_hd : 0 ≤ d ∧ d ≤ 4294967295) (hx : x = 0 ∨ x = 1) (_hpt : 0 ≤ pt ∧ pt ≤ 4294967295) :
    Calls Tryd.prog 13 #[.string ⟨#[116, 111, 110]⟩, .slice A n c, .slice A' n' c', .int .i64 now] w fun e w' => ∃ g2 g3, e = .returned (.tuple #[.slice (some ⟨g2, 0, none⟩) 4 4, .slice (some ⟨g3, 0, none⟩) 2 2]) ∧ ∃ Os, Mem w w' [] (⟨3, 1, some ⟨g3, 0, none⟩, 2, 2, ints [(tonS a b c2 d x pt now').q, (tonS a b c2 d x pt now').e]⟩ :: ⟨3, 1, some ⟨g2, 0, none⟩, 4, 4, ints [(tonS a b c2 d x pt now').a, (tonS a b c2 d x pt now').b, (tonS a b c2 d x pt now').c, (tonS a b c2 d x pt now').d]⟩ :: Os) := by
  have HSH : Hid (Calls Tryd.prog 8 #[.string ⟨#[116, 111, 110]⟩] w _) := ref_reads (b := b_ton) (by simp [bts]) 2 4 (by rw [ton_ins]; rfl) (by rw [ton_st]; rfl) w
  have HR := Lib.hid hr
  have HR' := Lib.hid hr'
  have HSI := Lib.hid (And.intro hs hi)
  have q0 : ((⟨#[116, 111, 110]⟩ : ByteArray).toList == [116, 111, 110]) = true := str_eq rfl
  have q1 : ((⟨#[116, 111, 110]⟩ : ByteArray).toList == [116, 111, 102]) = false := str_ne (by decide)
  have q2 : ((⟨#[116, 111, 110]⟩ : ByteArray).toList == [116, 112]) = false := str_ne (by decide)
  have q3 : ((⟨#[116, 111, 110]⟩ : ByteArray).toList == [99, 116, 117]) = false := str_ne (by decide)
  have q4 : ((⟨#[116, 111, 110]⟩ : ByteArray).toList == [99, 116, 100]) = false := str_ne (by decide)
  have q5 : ((⟨#[116, 111, 110]⟩ : ByteArray).toList == [99, 116, 117, 100]) = false := str_ne (by decide)
  have q6 : ((⟨#[116, 111, 110]⟩ : ByteArray).toList == [114, 95, 116, 114, 105, 103]) = false := str_ne (by decide)
  have q7 : ((⟨#[116, 111, 110]⟩ : ByteArray).toList == [102, 95, 116, 114, 105, 103]) = false := str_ne (by decide)
  have q8 : ((⟨#[116, 111, 110]⟩ : ByteArray).toList == [115, 114]) = false := str_ne (by decide)
  have q9 : ((⟨#[116, 111, 110]⟩ : ByteArray).toList == [114, 115]) = false := str_ne (by decide)
  have q10 : ((⟨#[116, 111, 110]⟩ : ByteArray).toList == [114, 97, 109, 112]) = false := str_ne (by decide)
  have q11 : ((⟨#[116, 111, 110]⟩ : ByteArray).toList == [104, 121, 115, 116]) = false := str_ne (by decide)
  clear hr hr' hs hi
  go_enter Tryd.func13, Tryd.ntmps13
  go_wp2_with fail
  refine HSH.out.mono ?_
  rintro e w1 ⟨g1, gx, g3, n2, rfl, hp1, hp3, hm⟩
  dsimp only
  have HP := Lib.hid (And.intro hp1 hp3)
  have M := Lib.hid hm
  clear hp1 hp3 hm HSH
  have c0 := (hm2 M.out g1 gx g3 2 n2 4).1
  have c2 := (hm2 M.out g1 gx g3 2 n2 4).2
  have M1 := Lib.hid (M.out.alloc 24 #[.slice (some ⟨g1, 0, none⟩) 2 2, .slice (some ⟨gx, 0, none⟩) n2 n2, .slice (some ⟨g3, 0, none⟩) 4 4])
  have HP1 := Lib.hid (And.intro (HP.out.1.alloc (.cells #[.slice (some ⟨g1, 0, none⟩) 2 2, .slice (some ⟨gx, 0, none⟩) n2 n2, .slice (some ⟨g3, 0, none⟩) 4 4] 24)) (HP.out.2.alloc (.cells #[.slice (some ⟨g1, 0, none⟩) 2 2, .slice (some ⟨gx, 0, none⟩) n2 n2, .slice (some ⟨g3, 0, none⟩) 4 4] 24)))
  clear M HP
  go_upto_region 4 with fail
  generalize World.alloc _ _ = w2 at M1 HP1 c0 c2 ⊢
  generalize w1.heap.size = gb at M1 c0 c2 ⊢
  go_wp2_with fail
  refine (taken_any A n c l _ 4 _ (pinsL b_ton.st) w2 (HR.out.below M1.out.bel) HP1.out.2 (by decide)).mono ?_
  rintro e w3 ⟨gs, rfl, ho, hb⟩
  dsimp only
  have M3 := Lib.hid (M1.out.made hb ho)
  have HP3 := Lib.hid (HP1.out.1.below hb)
  have e0 : w3.cell? ⟨gb, 0, none⟩ = some (.slice (some ⟨g1, 0, none⟩) 2 2) := (hb.cell (lt_of_cell c0)).trans c0
  clear M1 HP1 c0 c2 ho hb
  go_wp2_with fail
  refine (taken_any A' n' c' l' _ 2 _ (pinsL b_ton.ins) w3 (HR'.out.below M3.out.bel) HP3.out (by decide)).mono ?_
  rintro e w4 ⟨gi, rfl, ho, hb⟩
  dsimp only
  have M4 := Lib.hid (M3.out.made hb ho)
  clear M3 HP3 e0 ho hb
  go_wp2_with fail
  refine (WrapR_any 5 now w4).mono ?_
  rintro e w5 ⟨rfl, rfl⟩
  dsimp only
  rw [hnow]
  rw [HSI.out.1, HSI.out.2] at M4
  have M5 := Lib.hid (M4.out.delK 0)
  have HS : Hid (Rd w4 1 (some ⟨gs, 0, none⟩) 4 (ints [a, b, c2, d])) := M5.out.rdO 1 rfl
  have HI : Hid (Rd w4 1 (some ⟨gi, 0, none⟩) 2 (ints [x, pt])) := M5.out.rdO 0 rfl
  clear M4 HSI HR HR' hnow
  have i0 : w4.cell? ⟨gi, 0, none⟩ = some (.int .i64 x) := rd_cells HI.out (by decide) 0 _ rfl
  have i1 : w4.cell? ⟨gi, 1, none⟩ = some (.int .i64 pt) := rd_cells HI.out (by decide) 1 _ rfl
  go_upto_region 11 with fail
  have dd : w4.drew.cell? ⟨gi, 0, none⟩ = some (.int .i64 x) ∧ w4.drew.cell? ⟨gi, 1, none⟩ = some (.int .i64 pt) := ⟨i0, i1⟩
  have HC := Lib.hid (tmr_ton (cs := 4) M5.out.drew HS.out ha hc2 hx hnn hb (d := d) (pt := pt))
  go_region_held3 (fun w' => w'.cell? ⟨gi, 0, none⟩ = some (.int .i64 x) ∧ w'.cell? ⟨gi, 1, none⟩ = some (.int .i64 pt)) (first | with_reducible assumption | (refine ⟨?_, ?_⟩ <;> go_simp))
    ((go_at_call 24
      refine HC.out.mono ?_
      rintro e w6 ⟨h2, h3, rfl, hm6⟩
      dsimp only
      have M6 := Lib.hid hm6
      have qq : w6.cell? ⟨gi, 0, none⟩ = some (.int .i64 x) ∧ w6.cell? ⟨gi, 1, none⟩ = some (.int .i64 pt) := ⟨rd_cells (hm6.rdO 2 rfl) (by decide) 0 _ rfl, rd_cells (hm6.rdO 2 rfl) (by decide) 1 _ rfl⟩
      clear hm6))
  all_goals go_wp2
  all_goals go_ret2
  all_goals exact ⟨_, _, rfl, _, M6.out⟩
set_option maxRecDepth 100000 in
set_option maxHeartbeats 12800000 in
theorem bs_tof (A : Option Addr) (n c : Nat) (l : List Int) (A' : Option Addr) (n' c' : Nat) (l' : List Int) (now : Int) (w : World) (hr : Rd w 1 A n (ints l)) (hr' : Rd w 1 A' n' (ints l')) (a b c2 d x pt now' : Int) (hs : fitF l (pinsL b_tof.st) = [a, b, c2, d]) (hi : fitF l' (pinsL b_tof.ins) = [x, pt]) (hnow : wrapF 5 now = now') (hnn : 0 ≤ now' ∧ now' ≤ 4294967295) (ha : a = 0 ∨ a = 1) (hb : 0 ≤ b ∧ b ≤ 4294967295) (hc2 : c2 = 0 ∨ c2 = 1) (_hd : 0 ≤ d ∧ d ≤ 4294967295) (hx : x = 0 ∨ x = 1) (_hpt : 0 ≤ pt ∧ pt ≤ 4294967295) :
    Calls Tryd.prog 13 #[.string ⟨#[116, 111, 102]⟩, .slice A n c, .slice A' n' c', .int .i64 now] w fun e w' => ∃ g2 g3, e = .returned (.tuple #[.slice (some ⟨g2, 0, none⟩) 4 4, .slice (some ⟨g3, 0, none⟩) 2 2]) ∧ ∃ Os, Mem w w' [] (⟨3, 1, some ⟨g3, 0, none⟩, 2, 2, ints [(tofS a b c2 d x pt now').q, (tofS a b c2 d x pt now').e]⟩ :: ⟨3, 1, some ⟨g2, 0, none⟩, 4, 4, ints [(tofS a b c2 d x pt now').a, (tofS a b c2 d x pt now').b, (tofS a b c2 d x pt now').c, (tofS a b c2 d x pt now').d]⟩ :: Os) := by
  have HSH : Hid (Calls Tryd.prog 8 #[.string ⟨#[116, 111, 102]⟩] w _) := ref_reads (b := b_tof) (by simp [bts]) 2 4 (by rw [tof_ins]; rfl) (by rw [tof_st]; rfl) w
  have HR := Lib.hid hr
  have HR' := Lib.hid hr'
  have HSI := Lib.hid (And.intro hs hi)
  have q0 : ((⟨#[116, 111, 102]⟩ : ByteArray).toList == [116, 111, 110]) = false := str_ne (by decide)
  have q1 : ((⟨#[116, 111, 102]⟩ : ByteArray).toList == [116, 111, 102]) = true := str_eq rfl
  have q2 : ((⟨#[116, 111, 102]⟩ : ByteArray).toList == [116, 112]) = false := str_ne (by decide)
  have q3 : ((⟨#[116, 111, 102]⟩ : ByteArray).toList == [99, 116, 117]) = false := str_ne (by decide)
  have q4 : ((⟨#[116, 111, 102]⟩ : ByteArray).toList == [99, 116, 100]) = false := str_ne (by decide)
  have q5 : ((⟨#[116, 111, 102]⟩ : ByteArray).toList == [99, 116, 117, 100]) = false := str_ne (by decide)
  have q6 : ((⟨#[116, 111, 102]⟩ : ByteArray).toList == [114, 95, 116, 114, 105, 103]) = false := str_ne (by decide)
  have q7 : ((⟨#[116, 111, 102]⟩ : ByteArray).toList == [102, 95, 116, 114, 105, 103]) = false := str_ne (by decide)
  have q8 : ((⟨#[116, 111, 102]⟩ : ByteArray).toList == [115, 114]) = false := str_ne (by decide)
  have q9 : ((⟨#[116, 111, 102]⟩ : ByteArray).toList == [114, 115]) = false := str_ne (by decide)
  have q10 : ((⟨#[116, 111, 102]⟩ : ByteArray).toList == [114, 97, 109, 112]) = false := str_ne (by decide)
  have q11 : ((⟨#[116, 111, 102]⟩ : ByteArray).toList == [104, 121, 115, 116]) = false := str_ne (by decide)
  clear hr hr' hs hi
  go_enter Tryd.func13, Tryd.ntmps13
  go_wp2_with fail
  refine HSH.out.mono ?_
  rintro e w1 ⟨g1, gx, g3, n2, rfl, hp1, hp3, hm⟩
  dsimp only
  have HP := Lib.hid (And.intro hp1 hp3)
  have M := Lib.hid hm
  clear hp1 hp3 hm HSH
  have c0 := (hm2 M.out g1 gx g3 2 n2 4).1
  have c2 := (hm2 M.out g1 gx g3 2 n2 4).2
  have M1 := Lib.hid (M.out.alloc 24 #[.slice (some ⟨g1, 0, none⟩) 2 2, .slice (some ⟨gx, 0, none⟩) n2 n2, .slice (some ⟨g3, 0, none⟩) 4 4])
  have HP1 := Lib.hid (And.intro (HP.out.1.alloc (.cells #[.slice (some ⟨g1, 0, none⟩) 2 2, .slice (some ⟨gx, 0, none⟩) n2 n2, .slice (some ⟨g3, 0, none⟩) 4 4] 24)) (HP.out.2.alloc (.cells #[.slice (some ⟨g1, 0, none⟩) 2 2, .slice (some ⟨gx, 0, none⟩) n2 n2, .slice (some ⟨g3, 0, none⟩) 4 4] 24)))
  clear M HP
  go_upto_region 4 with fail
  generalize World.alloc _ _ = w2 at M1 HP1 c0 c2 ⊢
  generalize w1.heap.size = gb at M1 c0 c2 ⊢
  go_wp2_with fail
  refine (taken_any A n c l _ 4 _ (pinsL b_tof.st) w2 (HR.out.below M1.out.bel) HP1.out.2 (by decide)).mono ?_
  rintro e w3 ⟨gs, rfl, ho, hb⟩
  dsimp only
  have M3 := Lib.hid (M1.out.made hb ho)
  have HP3 := Lib.hid (HP1.out.1.below hb)
  have e0 : w3.cell? ⟨gb, 0, none⟩ = some (.slice (some ⟨g1, 0, none⟩) 2 2) := (hb.cell (lt_of_cell c0)).trans c0
  clear M1 HP1 c0 c2 ho hb
  go_wp2_with fail
  refine (taken_any A' n' c' l' _ 2 _ (pinsL b_tof.ins) w3 (HR'.out.below M3.out.bel) HP3.out (by decide)).mono ?_
  rintro e w4 ⟨gi, rfl, ho, hb⟩
  dsimp only
  have M4 := Lib.hid (M3.out.made hb ho)
  clear M3 HP3 e0 ho hb
  go_wp2_with fail
  refine (WrapR_any 5 now w4).mono ?_
  rintro e w5 ⟨rfl, rfl⟩
  dsimp only
  rw [hnow]
  rw [HSI.out.1, HSI.out.2] at M4
  have M5 := Lib.hid (M4.out.delK 0)
  have HS : Hid (Rd w4 1 (some ⟨gs, 0, none⟩) 4 (ints [a, b, c2, d])) := M5.out.rdO 1 rfl
  have HI : Hid (Rd w4 1 (some ⟨gi, 0, none⟩) 2 (ints [x, pt])) := M5.out.rdO 0 rfl
  clear M4 HSI HR HR' hnow
  have i0 : w4.cell? ⟨gi, 0, none⟩ = some (.int .i64 x) := rd_cells HI.out (by decide) 0 _ rfl
  have i1 : w4.cell? ⟨gi, 1, none⟩ = some (.int .i64 pt) := rd_cells HI.out (by decide) 1 _ rfl
  go_upto_region 11 with fail
  have dd : w4.drew.cell? ⟨gi, 0, none⟩ = some (.int .i64 x) ∧ w4.drew.cell? ⟨gi, 1, none⟩ = some (.int .i64 pt) := ⟨i0, i1⟩
  have HC := Lib.hid (tmr_tof (cs := 4) M5.out.drew HS.out ha hc2 hx hnn hb (d := d) (pt := pt))
  go_region_held3 (fun w' => w'.cell? ⟨gi, 0, none⟩ = some (.int .i64 x) ∧ w'.cell? ⟨gi, 1, none⟩ = some (.int .i64 pt)) (first | with_reducible assumption | (refine ⟨?_, ?_⟩ <;> go_simp))
    ((go_at_call 24
      refine HC.out.mono ?_
      rintro e w6 ⟨h2, h3, rfl, hm6⟩
      dsimp only
      have M6 := Lib.hid hm6
      have qq : w6.cell? ⟨gi, 0, none⟩ = some (.int .i64 x) ∧ w6.cell? ⟨gi, 1, none⟩ = some (.int .i64 pt) := ⟨rd_cells (hm6.rdO 2 rfl) (by decide) 0 _ rfl, rd_cells (hm6.rdO 2 rfl) (by decide) 1 _ rfl⟩
      clear hm6))
  all_goals go_wp2
  all_goals go_ret2
  all_goals exact ⟨_, _, rfl, _, M6.out⟩
set_option maxRecDepth 100000 in
set_option maxHeartbeats 12800000 in
theorem bs_tp (A : Option Addr) (n c : Nat) (l : List Int) (A' : Option Addr) (n' c' : Nat) (l' : List Int) (now : Int) (w : World) (hr : Rd w 1 A n (ints l)) (hr' : Rd w 1 A' n' (ints l')) (a b c2 d x pt now' : Int) (hs : fitF l (pinsL b_tp.st) = [a, b, c2, d]) (hi : fitF l' (pinsL b_tp.ins) = [x, pt]) (hnow : wrapF 5 now = now') (hnn : 0 ≤ now' ∧ now' ≤ 4294967295) (ha : a = 0 ∨ a = 1) (hb : 0 ≤ b ∧ b ≤ 4294967295) (hc2 : c2 = 0 ∨ c2 = 1) (_hd : 0 ≤ d ∧ d ≤ 4294967295) (hx : x = 0 ∨ x = 1) (_hpt : 0 ≤ pt ∧ pt ≤ 4294967295) :
    Calls Tryd.prog 13 #[.string ⟨#[116, 112]⟩, .slice A n c, .slice A' n' c', .int .i64 now] w fun e w' => ∃ g2 g3, e = .returned (.tuple #[.slice (some ⟨g2, 0, none⟩) 4 4, .slice (some ⟨g3, 0, none⟩) 2 2]) ∧ ∃ Os, Mem w w' [] (⟨3, 1, some ⟨g3, 0, none⟩, 2, 2, ints [(tpS a b c2 d x pt now').q, (tpS a b c2 d x pt now').e]⟩ :: ⟨3, 1, some ⟨g2, 0, none⟩, 4, 4, ints [(tpS a b c2 d x pt now').a, (tpS a b c2 d x pt now').b, (tpS a b c2 d x pt now').c, (tpS a b c2 d x pt now').d]⟩ :: Os) := by
  have HSH : Hid (Calls Tryd.prog 8 #[.string ⟨#[116, 112]⟩] w _) := ref_reads (b := b_tp) (by simp [bts]) 2 4 (by rw [tp_ins]; rfl) (by rw [tp_st]; rfl) w
  have HR := Lib.hid hr
  have HR' := Lib.hid hr'
  have HSI := Lib.hid (And.intro hs hi)
  have q0 : ((⟨#[116, 112]⟩ : ByteArray).toList == [116, 111, 110]) = false := str_ne (by decide)
  have q1 : ((⟨#[116, 112]⟩ : ByteArray).toList == [116, 111, 102]) = false := str_ne (by decide)
  have q2 : ((⟨#[116, 112]⟩ : ByteArray).toList == [116, 112]) = true := str_eq rfl
  have q3 : ((⟨#[116, 112]⟩ : ByteArray).toList == [99, 116, 117]) = false := str_ne (by decide)
  have q4 : ((⟨#[116, 112]⟩ : ByteArray).toList == [99, 116, 100]) = false := str_ne (by decide)
  have q5 : ((⟨#[116, 112]⟩ : ByteArray).toList == [99, 116, 117, 100]) = false := str_ne (by decide)
  have q6 : ((⟨#[116, 112]⟩ : ByteArray).toList == [114, 95, 116, 114, 105, 103]) = false := str_ne (by decide)
  have q7 : ((⟨#[116, 112]⟩ : ByteArray).toList == [102, 95, 116, 114, 105, 103]) = false := str_ne (by decide)
  have q8 : ((⟨#[116, 112]⟩ : ByteArray).toList == [115, 114]) = false := str_ne (by decide)
  have q9 : ((⟨#[116, 112]⟩ : ByteArray).toList == [114, 115]) = false := str_ne (by decide)
  have q10 : ((⟨#[116, 112]⟩ : ByteArray).toList == [114, 97, 109, 112]) = false := str_ne (by decide)
  have q11 : ((⟨#[116, 112]⟩ : ByteArray).toList == [104, 121, 115, 116]) = false := str_ne (by decide)
  clear hr hr' hs hi
  go_enter Tryd.func13, Tryd.ntmps13
  go_wp2_with fail
  refine HSH.out.mono ?_
  rintro e w1 ⟨g1, gx, g3, n2, rfl, hp1, hp3, hm⟩
  dsimp only
  have HP := Lib.hid (And.intro hp1 hp3)
  have M := Lib.hid hm
  clear hp1 hp3 hm HSH
  have c0 := (hm2 M.out g1 gx g3 2 n2 4).1
  have c2 := (hm2 M.out g1 gx g3 2 n2 4).2
  have M1 := Lib.hid (M.out.alloc 24 #[.slice (some ⟨g1, 0, none⟩) 2 2, .slice (some ⟨gx, 0, none⟩) n2 n2, .slice (some ⟨g3, 0, none⟩) 4 4])
  have HP1 := Lib.hid (And.intro (HP.out.1.alloc (.cells #[.slice (some ⟨g1, 0, none⟩) 2 2, .slice (some ⟨gx, 0, none⟩) n2 n2, .slice (some ⟨g3, 0, none⟩) 4 4] 24)) (HP.out.2.alloc (.cells #[.slice (some ⟨g1, 0, none⟩) 2 2, .slice (some ⟨gx, 0, none⟩) n2 n2, .slice (some ⟨g3, 0, none⟩) 4 4] 24)))
  clear M HP
  go_upto_region 4 with fail
  generalize World.alloc _ _ = w2 at M1 HP1 c0 c2 ⊢
  generalize w1.heap.size = gb at M1 c0 c2 ⊢
  go_wp2_with fail
  refine (taken_any A n c l _ 4 _ (pinsL b_tp.st) w2 (HR.out.below M1.out.bel) HP1.out.2 (by decide)).mono ?_
  rintro e w3 ⟨gs, rfl, ho, hb⟩
  dsimp only
  have M3 := Lib.hid (M1.out.made hb ho)
  have HP3 := Lib.hid (HP1.out.1.below hb)
  have e0 : w3.cell? ⟨gb, 0, none⟩ = some (.slice (some ⟨g1, 0, none⟩) 2 2) := (hb.cell (lt_of_cell c0)).trans c0
  clear M1 HP1 c0 c2 ho hb
  go_wp2_with fail
  refine (taken_any A' n' c' l' _ 2 _ (pinsL b_tp.ins) w3 (HR'.out.below M3.out.bel) HP3.out (by decide)).mono ?_
  rintro e w4 ⟨gi, rfl, ho, hb⟩
  dsimp only
  have M4 := Lib.hid (M3.out.made hb ho)
  clear M3 HP3 e0 ho hb
  go_wp2_with fail
  refine (WrapR_any 5 now w4).mono ?_
  rintro e w5 ⟨rfl, rfl⟩
  dsimp only
  rw [hnow]
  rw [HSI.out.1, HSI.out.2] at M4
  have M5 := Lib.hid (M4.out.delK 0)
  have HS : Hid (Rd w4 1 (some ⟨gs, 0, none⟩) 4 (ints [a, b, c2, d])) := M5.out.rdO 1 rfl
  have HI : Hid (Rd w4 1 (some ⟨gi, 0, none⟩) 2 (ints [x, pt])) := M5.out.rdO 0 rfl
  clear M4 HSI HR HR' hnow
  have i0 : w4.cell? ⟨gi, 0, none⟩ = some (.int .i64 x) := rd_cells HI.out (by decide) 0 _ rfl
  have i1 : w4.cell? ⟨gi, 1, none⟩ = some (.int .i64 pt) := rd_cells HI.out (by decide) 1 _ rfl
  go_upto_region 11 with fail
  have dd : w4.drew.cell? ⟨gi, 0, none⟩ = some (.int .i64 x) ∧ w4.drew.cell? ⟨gi, 1, none⟩ = some (.int .i64 pt) := ⟨i0, i1⟩
  have HC := Lib.hid (tmr_tp (cs := 4) M5.out.drew HS.out ha hc2 hx hnn hb (d := d) (pt := pt))
  go_region_held3 (fun w' => w'.cell? ⟨gi, 0, none⟩ = some (.int .i64 x) ∧ w'.cell? ⟨gi, 1, none⟩ = some (.int .i64 pt)) (first | with_reducible assumption | (refine ⟨?_, ?_⟩ <;> go_simp))
    ((go_at_call 24
      refine HC.out.mono ?_
      rintro e w6 ⟨h2, h3, rfl, hm6⟩
      dsimp only
      have M6 := Lib.hid hm6
      have qq : w6.cell? ⟨gi, 0, none⟩ = some (.int .i64 x) ∧ w6.cell? ⟨gi, 1, none⟩ = some (.int .i64 pt) := ⟨rd_cells (hm6.rdO 2 rfl) (by decide) 0 _ rfl, rd_cells (hm6.rdO 2 rfl) (by decide) 1 _ rfl⟩
      clear hm6))
  all_goals go_wp2
  all_goals go_ret2
  all_goals exact ⟨_, _, rfl, _, M6.out⟩
end Go.Proofs.YthgjjclmepfbpaaDoor.Blk
