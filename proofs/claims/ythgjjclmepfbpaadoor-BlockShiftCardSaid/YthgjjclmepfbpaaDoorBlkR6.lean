/-
  The reference's BlockStep: counters and latches. Conditions: both lists read.
-/
import Derived.Test.YthgjjclmepfbpaaDoorBlkR4
namespace Go.Proofs.YthgjjclmepfbpaaDoor.Blk
open Go.RowKit Go.Proofs.YthgjjclmepfbpaaDoor.W Go.Proofs.YthgjjclmepfbpaaDoor.Ints Go.Proofs.YthgjjclmepfbpaaDoor.Cell Go.Proofs.YthgjjclmepfbpaaDoor.Num

set_option maxRecDepth 100000 in
set_option maxHeartbeats 12800000 in
theorem bs_ctu (A : Option Addr) (n c : Nat) (l : List Int) (A' : Option Addr) (n' c' : Nat) (l' : List Int) (now : Int) (w : World) (hr : Rd w 1 A n (ints l)) (hr' : Rd w 1 A' n' (ints l')) (p k x r v now' : Int) (hs : fitF l (pinsL b_ctu.st) = [p, k]) (hi : fitF l' (pinsL b_ctu.ins) = [x, r, v]) (hnow : wrapF 5 now = now') (_hnn : 0 ≤ now' ∧ now' ≤ 4294967295) (_hp : p = 0 ∨ p = 1) (hk : -32768 ≤ k ∧ k ≤ 32767) (_hx : x = 0 ∨ x = 1) (_hr0 : r = 0 ∨ r = 1) (_hv : -32768 ≤ v ∧ v ≤ 32767) :
    Calls Tryd.prog 13 #[.string ⟨#[99, 116, 117]⟩, .slice A n c, .slice A' n' c', .int .i64 now] w fun e w' => ∃ g2 g3, e = .returned (.tuple #[.slice (some ⟨g2, 0, none⟩) 2 2, .slice (some ⟨g3, 0, none⟩) 2 2]) ∧ ∃ Os, Mem w w' [] (⟨3, 1, some ⟨g3, 0, none⟩, 2, 2, ints [yesI (decide (v ≤ ctuN p k x r)), ctuN p k x r]⟩ :: ⟨3, 1, some ⟨g2, 0, none⟩, 2, 2, ints [x, ctuN p k x r]⟩ :: Os) := by
  have HSH : Hid (Calls Tryd.prog 8 #[.string ⟨#[99, 116, 117]⟩] w _) := ref_reads (b := b_ctu) (by simp [bts]) 3 2 (by rw [ctu_ins]; rfl) (by rw [ctu_st]; rfl) w
  have HR := Lib.hid hr
  have HR' := Lib.hid hr'
  have HSI := Lib.hid (And.intro hs hi)
  have q0 : ((⟨#[99, 116, 117]⟩ : ByteArray).toList == [116, 111, 110]) = false := str_ne (by decide)
  have q1 : ((⟨#[99, 116, 117]⟩ : ByteArray).toList == [116, 111, 102]) = false := str_ne (by decide)
  have q2 : ((⟨#[99, 116, 117]⟩ : ByteArray).toList == [116, 112]) = false := str_ne (by decide)
  have q3 : ((⟨#[99, 116, 117]⟩ : ByteArray).toList == [99, 116, 117]) = true := str_eq rfl
  have q4 : ((⟨#[99, 116, 117]⟩ : ByteArray).toList == [99, 116, 100]) = false := str_ne (by decide)
  have q5 : ((⟨#[99, 116, 117]⟩ : ByteArray).toList == [99, 116, 117, 100]) = false := str_ne (by decide)
  have q6 : ((⟨#[99, 116, 117]⟩ : ByteArray).toList == [114, 95, 116, 114, 105, 103]) = false := str_ne (by decide)
  have q7 : ((⟨#[99, 116, 117]⟩ : ByteArray).toList == [102, 95, 116, 114, 105, 103]) = false := str_ne (by decide)
  have q8 : ((⟨#[99, 116, 117]⟩ : ByteArray).toList == [115, 114]) = false := str_ne (by decide)
  have q9 : ((⟨#[99, 116, 117]⟩ : ByteArray).toList == [114, 115]) = false := str_ne (by decide)
  have q10 : ((⟨#[99, 116, 117]⟩ : ByteArray).toList == [114, 97, 109, 112]) = false := str_ne (by decide)
  have q11 : ((⟨#[99, 116, 117]⟩ : ByteArray).toList == [104, 121, 115, 116]) = false := str_ne (by decide)
  clear hr hr' hs hi
  go_enter Tryd.func13, Tryd.ntmps13
  go_wp2_with fail
  refine HSH.out.mono ?_
  rintro e w1 ⟨g1, gx, g3, n2, rfl, hp1, hp3, hm⟩
  dsimp only
  have HP := Lib.hid (And.intro hp1 hp3)
  have M := Lib.hid hm
  clear hp1 hp3 hm HSH
  have c0 := (hm2 M.out g1 gx g3 3 n2 2).1
  have c2 := (hm2 M.out g1 gx g3 3 n2 2).2
  have M1 := Lib.hid (M.out.alloc 24 #[.slice (some ⟨g1, 0, none⟩) 3 3, .slice (some ⟨gx, 0, none⟩) n2 n2, .slice (some ⟨g3, 0, none⟩) 2 2])
  have HP1 := Lib.hid (And.intro (HP.out.1.alloc (.cells #[.slice (some ⟨g1, 0, none⟩) 3 3, .slice (some ⟨gx, 0, none⟩) n2 n2, .slice (some ⟨g3, 0, none⟩) 2 2] 24)) (HP.out.2.alloc (.cells #[.slice (some ⟨g1, 0, none⟩) 3 3, .slice (some ⟨gx, 0, none⟩) n2 n2, .slice (some ⟨g3, 0, none⟩) 2 2] 24)))
  clear M HP
  go_upto_region 4 with fail
  generalize World.alloc _ _ = w2 at M1 HP1 c0 c2 ⊢
  generalize w1.heap.size = gb at M1 c0 c2 ⊢
  go_wp2_with fail
  refine (taken_any A n c l _ 2 _ (pinsL b_ctu.st) w2 (HR.out.below M1.out.bel) HP1.out.2 (by decide)).mono ?_
  rintro e w3 ⟨gs, rfl, ho, hb⟩
  dsimp only
  have M3 := Lib.hid (M1.out.made hb ho)
  have HP3 := Lib.hid (HP1.out.1.below hb)
  have e0 : w3.cell? ⟨gb, 0, none⟩ = some (.slice (some ⟨g1, 0, none⟩) 3 3) := (hb.cell (lt_of_cell c0)).trans c0
  clear M1 HP1 c0 c2 ho hb
  go_wp2_with fail
  refine (taken_any A' n' c' l' _ 3 _ (pinsL b_ctu.ins) w3 (HR'.out.below M3.out.bel) HP3.out (by decide)).mono ?_
  rintro e w4 ⟨gi, rfl, ho, hb⟩
  dsimp only
  have M4 := Lib.hid (M3.out.made hb ho)
  clear M3 HP3 e0 ho hb
  go_wp2_with fail
  refine (WrapR_any 5 now w4).mono ?_
  rintro e w5 ⟨rfl, rfl⟩
  dsimp only
  rw [hnow]
  rw [HSI.out.1, HSI.out.2] at M4
  have M5 := Lib.hid (M4.out.delK 0)
  have HS : Hid (Rd w4 1 (some ⟨gs, 0, none⟩) 2 (ints [p, k])) := M5.out.rdO 1 rfl
  have HI : Hid (Rd w4 1 (some ⟨gi, 0, none⟩) 3 (ints [x, r, v])) := M5.out.rdO 0 rfl
  clear M4 HSI HR HR' hnow
  go_wp2_with fail
  refine (cnt_u M5.out HS.out HI.out hk.1 hk.2).mono ?_
  rintro e w6 ⟨h2, h3, rfl, hm6⟩
  dsimp only
  have M6 := Lib.hid hm6
  clear hm6
  go_wp2
  go_ret2
  exact ⟨_, _, rfl, _, M6.out⟩
set_option maxRecDepth 100000 in
set_option maxHeartbeats 12800000 in
theorem bs_ctd (A : Option Addr) (n c : Nat) (l : List Int) (A' : Option Addr) (n' c' : Nat) (l' : List Int) (now : Int) (w : World) (hr : Rd w 1 A n (ints l)) (hr' : Rd w 1 A' n' (ints l')) (p k x r v now' : Int) (hs : fitF l (pinsL b_ctd.st) = [p, k]) (hi : fitF l' (pinsL b_ctd.ins) = [x, r, v]) (hnow : wrapF 5 now = now') (_hnn : 0 ≤ now' ∧ now' ≤ 4294967295) (_hp : p = 0 ∨ p = 1) (hk : -32768 ≤ k ∧ k ≤ 32767) (_hx : x = 0 ∨ x = 1) (_hr0 : r = 0 ∨ r = 1) (_hv : -32768 ≤ v ∧ v ≤ 32767) :
    Calls Tryd.prog 13 #[.string ⟨#[99, 116, 100]⟩, .slice A n c, .slice A' n' c', .int .i64 now] w fun e w' => ∃ g2 g3, e = .returned (.tuple #[.slice (some ⟨g2, 0, none⟩) 2 2, .slice (some ⟨g3, 0, none⟩) 2 2]) ∧ ∃ Os, Mem w w' [] (⟨3, 1, some ⟨g3, 0, none⟩, 2, 2, ints [yesI (decide (ctdN p k x r v ≤ 0)), ctdN p k x r v]⟩ :: ⟨3, 1, some ⟨g2, 0, none⟩, 2, 2, ints [x, ctdN p k x r v]⟩ :: Os) := by
  have HSH : Hid (Calls Tryd.prog 8 #[.string ⟨#[99, 116, 100]⟩] w _) := ref_reads (b := b_ctd) (by simp [bts]) 3 2 (by rw [ctd_ins]; rfl) (by rw [ctd_st]; rfl) w
  have HR := Lib.hid hr
  have HR' := Lib.hid hr'
  have HSI := Lib.hid (And.intro hs hi)
  have q0 : ((⟨#[99, 116, 100]⟩ : ByteArray).toList == [116, 111, 110]) = false := str_ne (by decide)
  have q1 : ((⟨#[99, 116, 100]⟩ : ByteArray).toList == [116, 111, 102]) = false := str_ne (by decide)
  have q2 : ((⟨#[99, 116, 100]⟩ : ByteArray).toList == [116, 112]) = false := str_ne (by decide)
  have q3 : ((⟨#[99, 116, 100]⟩ : ByteArray).toList == [99, 116, 117]) = false := str_ne (by decide)
  have q4 : ((⟨#[99, 116, 100]⟩ : ByteArray).toList == [99, 116, 100]) = true := str_eq rfl
  have q5 : ((⟨#[99, 116, 100]⟩ : ByteArray).toList == [99, 116, 117, 100]) = false := str_ne (by decide)
  have q6 : ((⟨#[99, 116, 100]⟩ : ByteArray).toList == [114, 95, 116, 114, 105, 103]) = false := str_ne (by decide)
  have q7 : ((⟨#[99, 116, 100]⟩ : ByteArray).toList == [102, 95, 116, 114, 105, 103]) = false := str_ne (by decide)
  have q8 : ((⟨#[99, 116, 100]⟩ : ByteArray).toList == [115, 114]) = false := str_ne (by decide)
  have q9 : ((⟨#[99, 116, 100]⟩ : ByteArray).toList == [114, 115]) = false := str_ne (by decide)
  have q10 : ((⟨#[99, 116, 100]⟩ : ByteArray).toList == [114, 97, 109, 112]) = false := str_ne (by decide)
  have q11 : ((⟨#[99, 116, 100]⟩ : ByteArray).toList == [104, 121, 115, 116]) = false := str_ne (by decide)
  clear hr hr' hs hi
  go_enter Tryd.func13, Tryd.ntmps13
  go_wp2_with fail
  refine HSH.out.mono ?_
  rintro e w1 ⟨g1, gx, g3, n2, rfl, hp1, hp3, hm⟩
  dsimp only
  have HP := Lib.hid (And.intro hp1 hp3)
  have M := Lib.hid hm
  clear hp1 hp3 hm HSH
  have c0 := (hm2 M.out g1 gx g3 3 n2 2).1
  have c2 := (hm2 M.out g1 gx g3 3 n2 2).2
  have M1 := Lib.hid (M.out.alloc 24 #[.slice (some ⟨g1, 0, none⟩) 3 3, .slice (some ⟨gx, 0, none⟩) n2 n2, .slice (some ⟨g3, 0, none⟩) 2 2])
  have HP1 := Lib.hid (And.intro (HP.out.1.alloc (.cells #[.slice (some ⟨g1, 0, none⟩) 3 3, .slice (some ⟨gx, 0, none⟩) n2 n2, .slice (some ⟨g3, 0, none⟩) 2 2] 24)) (HP.out.2.alloc (.cells #[.slice (some ⟨g1, 0, none⟩) 3 3, .slice (some ⟨gx, 0, none⟩) n2 n2, .slice (some ⟨g3, 0, none⟩) 2 2] 24)))
  clear M HP
  go_upto_region 4 with fail
  generalize World.alloc _ _ = w2 at M1 HP1 c0 c2 ⊢
  generalize w1.heap.size = gb at M1 c0 c2 ⊢
  go_wp2_with fail
  refine (taken_any A n c l _ 2 _ (pinsL b_ctd.st) w2 (HR.out.below M1.out.bel) HP1.out.2 (by decide)).mono ?_
  rintro e w3 ⟨gs, rfl, ho, hb⟩
  dsimp only
  have M3 := Lib.hid (M1.out.made hb ho)
  have HP3 := Lib.hid (HP1.out.1.below hb)
  have e0 : w3.cell? ⟨gb, 0, none⟩ = some (.slice (some ⟨g1, 0, none⟩) 3 3) := (hb.cell (lt_of_cell c0)).trans c0
  clear M1 HP1 c0 c2 ho hb
  go_wp2_with fail
  refine (taken_any A' n' c' l' _ 3 _ (pinsL b_ctd.ins) w3 (HR'.out.below M3.out.bel) HP3.out (by decide)).mono ?_
  rintro e w4 ⟨gi, rfl, ho, hb⟩
  dsimp only
  have M4 := Lib.hid (M3.out.made hb ho)
  clear M3 HP3 e0 ho hb
  go_wp2_with fail
  refine (WrapR_any 5 now w4).mono ?_
  rintro e w5 ⟨rfl, rfl⟩
  dsimp only
  rw [hnow]
  rw [HSI.out.1, HSI.out.2] at M4
  have M5 := Lib.hid (M4.out.delK 0)
  have HS : Hid (Rd w4 1 (some ⟨gs, 0, none⟩) 2 (ints [p, k])) := M5.out.rdO 1 rfl
  have HI : Hid (Rd w4 1 (some ⟨gi, 0, none⟩) 3 (ints [x, r, v])) := M5.out.rdO 0 rfl
  clear M4 HSI HR HR' hnow
  go_wp2_with fail
  refine (cnt_d M5.out HS.out HI.out hk.1 hk.2).mono ?_
  rintro e w6 ⟨h2, h3, rfl, hm6⟩
  dsimp only
  have M6 := Lib.hid hm6
  clear hm6
  go_wp2
  go_ret2
  exact ⟨_, _, rfl, _, M6.out⟩
set_option maxRecDepth 100000 in
set_option maxHeartbeats 12800000 in
theorem bs_ctud (A : Option Addr) (n c : Nat) (l : List Int) (A' : Option Addr) (n' c' : Nat) (l' : List Int) (now : Int) (w : World) (hr : Rd w 1 A n (ints l)) (hr' : Rd w 1 A' n' (ints l')) (a b k x y r u v now' : Int) (hs : fitF l (pinsL b_ctud.st) = [a, b, k]) (hi : fitF l' (pinsL b_ctud.ins) = [x, y, r, u, v]) (hnow : wrapF 5 now = now') (_hnn : 0 ≤ now' ∧ now' ≤ 4294967295) (_ha : a = 0 ∨ a = 1) (_hb : b = 0 ∨ b = 1) (hk : -32768 ≤ k ∧ k ≤ 32767) (_hx : x = 0 ∨ x = 1) (_hy : y = 0 ∨ y = 1) (_hr0 : r = 0 ∨ r = 1) (_hu : u = 0 ∨ u = 1) (_hv : -32768 ≤ v ∧ v ≤ 32767) :
    Calls Tryd.prog 13 #[.string ⟨#[99, 116, 117, 100]⟩, .slice A n c, .slice A' n' c', .int .i64 now] w fun e w' => ∃ g2 g3, e = .returned (.tuple #[.slice (some ⟨g2, 0, none⟩) 3 3, .slice (some ⟨g3, 0, none⟩) 3 3]) ∧ ∃ Os, Mem w w' [] (⟨3, 1, some ⟨g3, 0, none⟩, 3, 3, ints [yesI (decide (v ≤ udN a b k x y r u v)), yesI (decide (udN a b k x y r u v ≤ 0)), udN a b k x y r u v]⟩ :: ⟨3, 1, some ⟨g2, 0, none⟩, 3, 3, ints [x, y, udN a b k x y r u v]⟩ :: Os) := by
  have HSH : Hid (Calls Tryd.prog 8 #[.string ⟨#[99, 116, 117, 100]⟩] w _) := ref_reads (b := b_ctud) (by simp [bts]) 5 3 (by rw [ctud_ins]; rfl) (by rw [ctud_st]; rfl) w
  have HR := Lib.hid hr
  have HR' := Lib.hid hr'
  have HSI := Lib.hid (And.intro hs hi)
  have q0 : ((⟨#[99, 116, 117, 100]⟩ : ByteArray).toList == [116, 111, 110]) = false := str_ne (by decide)
  have q1 : ((⟨#[99, 116, 117, 100]⟩ : ByteArray).toList == [116, 111, 102]) = false := str_ne (by decide)
  have q2 : ((⟨#[99, 116, 117, 100]⟩ : ByteArray).toList == [116, 112]) = false := str_ne (by decide)
  have q3 : ((⟨#[99, 116, 117, 100]⟩ : ByteArray).toList == [99, 116, 117]) = false := str_ne (by decide)
  have q4 : ((⟨#[99, 116, 117, 100]⟩ : ByteArray).toList == [99, 116, 100]) = false := str_ne (by decide)
  have q5 : ((⟨#[99, 116, 117, 100]⟩ : ByteArray).toList == [99, 116, 117, 100]) = true := str_eq rfl
  have q6 : ((⟨#[99, 116, 117, 100]⟩ : ByteArray).toList == [114, 95, 116, 114, 105, 103]) = false := str_ne (by decide)
  have q7 : ((⟨#[99, 116, 117, 100]⟩ : ByteArray).toList == [102, 95, 116, 114, 105, 103]) = false := str_ne (by decide)
  have q8 : ((⟨#[99, 116, 117, 100]⟩ : ByteArray).toList == [115, 114]) = false := str_ne (by decide)
  have q9 : ((⟨#[99, 116, 117, 100]⟩ : ByteArray).toList == [114, 115]) = false := str_ne (by decide)
  have q10 : ((⟨#[99, 116, 117, 100]⟩ : ByteArray).toList == [114, 97, 109, 112]) = false := str_ne (by decide)
  have q11 : ((⟨#[99, 116, 117, 100]⟩ : ByteArray).toList == [104, 121, 115, 116]) = false := str_ne (by decide)
  clear hr hr' hs hi
  go_enter Tryd.func13, Tryd.ntmps13
  go_wp2_with fail
  refine HSH.out.mono ?_
  rintro e w1 ⟨g1, gx, g3, n2, rfl, hp1, hp3, hm⟩
  dsimp only
  have HP := Lib.hid (And.intro hp1 hp3)
  have M := Lib.hid hm
  clear hp1 hp3 hm HSH
  have c0 := (hm2 M.out g1 gx g3 5 n2 3).1
  have c2 := (hm2 M.out g1 gx g3 5 n2 3).2
  have M1 := Lib.hid (M.out.alloc 24 #[.slice (some ⟨g1, 0, none⟩) 5 5, .slice (some ⟨gx, 0, none⟩) n2 n2, .slice (some ⟨g3, 0, none⟩) 3 3])
  have HP1 := Lib.hid (And.intro (HP.out.1.alloc (.cells #[.slice (some ⟨g1, 0, none⟩) 5 5, .slice (some ⟨gx, 0, none⟩) n2 n2, .slice (some ⟨g3, 0, none⟩) 3 3] 24)) (HP.out.2.alloc (.cells #[.slice (some ⟨g1, 0, none⟩) 5 5, .slice (some ⟨gx, 0, none⟩) n2 n2, .slice (some ⟨g3, 0, none⟩) 3 3] 24)))
  clear M HP
  go_upto_region 4 with fail
  generalize World.alloc _ _ = w2 at M1 HP1 c0 c2 ⊢
  generalize w1.heap.size = gb at M1 c0 c2 ⊢
  go_wp2_with fail
  refine (taken_any A n c l _ 3 _ (pinsL b_ctud.st) w2 (HR.out.below M1.out.bel) HP1.out.2 (by decide)).mono ?_
  rintro e w3 ⟨gs, rfl, ho, hb⟩
  dsimp only
  have M3 := Lib.hid (M1.out.made hb ho)
  have HP3 := Lib.hid (HP1.out.1.below hb)
  have e0 : w3.cell? ⟨gb, 0, none⟩ = some (.slice (some ⟨g1, 0, none⟩) 5 5) := (hb.cell (lt_of_cell c0)).trans c0
  clear M1 HP1 c0 c2 ho hb
  go_wp2_with fail
  refine (taken_any A' n' c' l' _ 5 _ (pinsL b_ctud.ins) w3 (HR'.out.below M3.out.bel) HP3.out (by decide)).mono ?_
  rintro e w4 ⟨gi, rfl, ho, hb⟩
  dsimp only
  have M4 := Lib.hid (M3.out.made hb ho)
  clear M3 HP3 e0 ho hb
  go_wp2_with fail
  refine (WrapR_any 5 now w4).mono ?_
  rintro e w5 ⟨rfl, rfl⟩
  dsimp only
  rw [hnow]
  rw [HSI.out.1, HSI.out.2] at M4
  have M5 := Lib.hid (M4.out.delK 0)
  have HS : Hid (Rd w4 1 (some ⟨gs, 0, none⟩) 3 (ints [a, b, k])) := M5.out.rdO 1 rfl
  have HI : Hid (Rd w4 1 (some ⟨gi, 0, none⟩) 5 (ints [x, y, r, u, v])) := M5.out.rdO 0 rfl
  clear M4 HSI HR HR' hnow
  go_wp2_with fail
  refine (cnt_ud M5.out HS.out HI.out hk.1 hk.2).mono ?_
  rintro e w6 ⟨h2, h3, rfl, hm6⟩
  dsimp only
  have M6 := Lib.hid hm6
  clear hm6
  go_wp2
  go_ret2
  exact ⟨_, _, rfl, _, M6.out⟩
set_option maxRecDepth 100000 in
set_option maxHeartbeats 12800000 in
theorem bs_sr (A : Option Addr) (n c : Nat) (l : List Int) (A' : Option Addr) (n' c' : Nat) (l' : List Int) (now : Int) (w : World) (hr : Rd w 1 A n (ints l)) (hr' : Rd w 1 A' n' (ints l')) (a x r now' : Int) (hs : fitF l (pinsL b_sr.st) = [a]) (hi : fitF l' (pinsL b_sr.ins) = [x, r]) (hnow : wrapF 5 now = now') (_hnn : 0 ≤ now' ∧ now' ≤ 4294967295) (ha : a = 0 ∨ a = 1) (hx : x = 0 ∨ x = 1) (hr0 : r = 0 ∨ r = 1) :
    Calls Tryd.prog 13 #[.string ⟨#[115, 114]⟩, .slice A n c, .slice A' n' c', .int .i64 now] w fun e w' => ∃ g2 g3, e = .returned (.tuple #[.slice (some ⟨g2, 0, none⟩) 1 1, .slice (some ⟨g3, 0, none⟩) 1 1]) ∧ ∃ Os, Mem w w' [] (⟨3, 1, some ⟨g3, 0, none⟩, 1, 1, ints [srF a x r]⟩ :: ⟨3, 1, some ⟨g2, 0, none⟩, 1, 1, ints [srF a x r]⟩ :: Os) := by
  have HSH : Hid (Calls Tryd.prog 8 #[.string ⟨#[115, 114]⟩] w _) := ref_reads (b := b_sr) (by simp [bts]) 2 1 (by rw [sr_ins]; rfl) (by rw [sr_st]; rfl) w
  have HR := Lib.hid hr
  have HR' := Lib.hid hr'
  have HSI := Lib.hid (And.intro hs hi)
  have q0 : ((⟨#[115, 114]⟩ : ByteArray).toList == [116, 111, 110]) = false := str_ne (by decide)
  have q1 : ((⟨#[115, 114]⟩ : ByteArray).toList == [116, 111, 102]) = false := str_ne (by decide)
  have q2 : ((⟨#[115, 114]⟩ : ByteArray).toList == [116, 112]) = false := str_ne (by decide)
  have q3 : ((⟨#[115, 114]⟩ : ByteArray).toList == [99, 116, 117]) = false := str_ne (by decide)
  have q4 : ((⟨#[115, 114]⟩ : ByteArray).toList == [99, 116, 100]) = false := str_ne (by decide)
  have q5 : ((⟨#[115, 114]⟩ : ByteArray).toList == [99, 116, 117, 100]) = false := str_ne (by decide)
  have q6 : ((⟨#[115, 114]⟩ : ByteArray).toList == [114, 95, 116, 114, 105, 103]) = false := str_ne (by decide)
  have q7 : ((⟨#[115, 114]⟩ : ByteArray).toList == [102, 95, 116, 114, 105, 103]) = false := str_ne (by decide)
  have q8 : ((⟨#[115, 114]⟩ : ByteArray).toList == [115, 114]) = true := str_eq rfl
  have q9 : ((⟨#[115, 114]⟩ : ByteArray).toList == [114, 115]) = false := str_ne (by decide)
  have q10 : ((⟨#[115, 114]⟩ : ByteArray).toList == [114, 97, 109, 112]) = false := str_ne (by decide)
  have q11 : ((⟨#[115, 114]⟩ : ByteArray).toList == [104, 121, 115, 116]) = false := str_ne (by decide)
  clear hr hr' hs hi
  go_enter Tryd.func13, Tryd.ntmps13
  go_wp2_with fail
  refine HSH.out.mono ?_
  rintro e w1 ⟨g1, gx, g3, n2, rfl, hp1, hp3, hm⟩
  dsimp only
  have HP := Lib.hid (And.intro hp1 hp3)
  have M := Lib.hid hm
  clear hp1 hp3 hm HSH
  have c0 := (hm2 M.out g1 gx g3 2 n2 1).1
  have c2 := (hm2 M.out g1 gx g3 2 n2 1).2
  have M1 := Lib.hid (M.out.alloc 24 #[.slice (some ⟨g1, 0, none⟩) 2 2, .slice (some ⟨gx, 0, none⟩) n2 n2, .slice (some ⟨g3, 0, none⟩) 1 1])
  have HP1 := Lib.hid (And.intro (HP.out.1.alloc (.cells #[.slice (some ⟨g1, 0, none⟩) 2 2, .slice (some ⟨gx, 0, none⟩) n2 n2, .slice (some ⟨g3, 0, none⟩) 1 1] 24)) (HP.out.2.alloc (.cells #[.slice (some ⟨g1, 0, none⟩) 2 2, .slice (some ⟨gx, 0, none⟩) n2 n2, .slice (some ⟨g3, 0, none⟩) 1 1] 24)))
  clear M HP
  go_upto_region 4 with fail
  generalize World.alloc _ _ = w2 at M1 HP1 c0 c2 ⊢
  generalize w1.heap.size = gb at M1 c0 c2 ⊢
  go_wp2_with fail
  refine (taken_any A n c l _ 1 _ (pinsL b_sr.st) w2 (HR.out.below M1.out.bel) HP1.out.2 (by decide)).mono ?_
  rintro e w3 ⟨gs, rfl, ho, hb⟩
  dsimp only
  have M3 := Lib.hid (M1.out.made hb ho)
  have HP3 := Lib.hid (HP1.out.1.below hb)
  have e0 : w3.cell? ⟨gb, 0, none⟩ = some (.slice (some ⟨g1, 0, none⟩) 2 2) := (hb.cell (lt_of_cell c0)).trans c0
  clear M1 HP1 c0 c2 ho hb
  go_wp2_with fail
  refine (taken_any A' n' c' l' _ 2 _ (pinsL b_sr.ins) w3 (HR'.out.below M3.out.bel) HP3.out (by decide)).mono ?_
  rintro e w4 ⟨gi, rfl, ho, hb⟩
  dsimp only
  have M4 := Lib.hid (M3.out.made hb ho)
  clear M3 HP3 e0 ho hb
  go_wp2_with fail
  refine (WrapR_any 5 now w4).mono ?_
  rintro e w5 ⟨rfl, rfl⟩
  dsimp only
  rw [hnow]
  rw [HSI.out.1, HSI.out.2] at M4
  have M5 := Lib.hid (M4.out.delK 0)
  have HS : Hid (Rd w4 1 (some ⟨gs, 0, none⟩) 1 (ints [a])) := M5.out.rdO 1 rfl
  have HI : Hid (Rd w4 1 (some ⟨gi, 0, none⟩) 2 (ints [x, r])) := M5.out.rdO 0 rfl
  clear M4 HSI HR HR' hnow
  have s0 : w4.cell? ⟨gs, 0, none⟩ = some (.int .i64 a) := rd_cells HS.out (by decide) 0 _ rfl
  have i0 : w4.cell? ⟨gi, 0, none⟩ = some (.int .i64 x) := rd_cells HI.out (by decide) 0 _ rfl
  have i1 : w4.cell? ⟨gi, 1, none⟩ = some (.int .i64 r) := rd_cells HI.out (by decide) 1 _ rfl
  clear HS HI
  rcases ha with rfl | rfl <;> rcases hx with rfl | rfl <;> rcases hr0 with rfl | rfl
  · go_wp2_with (go_at_call 26; refine (yes_any _ _).mono ?_; rintro e wy ⟨rfl, rfl⟩; dsimp only)
    go_ret2
    exact ⟨_, _, rfl, _, two_rows M5.out [yesI false] [yesI false] 1 1 rfl rfl rfl rfl (by decide) (by decide)⟩
  · go_wp2_with (go_at_call 26; refine (yes_any _ _).mono ?_; rintro e wy ⟨rfl, rfl⟩; dsimp only)
    go_ret2
    exact ⟨_, _, rfl, _, two_rows M5.out [yesI false] [yesI false] 1 1 rfl rfl rfl rfl (by decide) (by decide)⟩
  · go_wp2_with (go_at_call 26; refine (yes_any _ _).mono ?_; rintro e wy ⟨rfl, rfl⟩; dsimp only)
    go_ret2
    exact ⟨_, _, rfl, _, two_rows M5.out [yesI true] [yesI true] 1 1 rfl rfl rfl rfl (by decide) (by decide)⟩
  · go_wp2_with (go_at_call 26; refine (yes_any _ _).mono ?_; rintro e wy ⟨rfl, rfl⟩; dsimp only)
    go_ret2
    exact ⟨_, _, rfl, _, two_rows M5.out [yesI true] [yesI true] 1 1 rfl rfl rfl rfl (by decide) (by decide)⟩
  · go_wp2_with (go_at_call 26; refine (yes_any _ _).mono ?_; rintro e wy ⟨rfl, rfl⟩; dsimp only)
    go_ret2
    exact ⟨_, _, rfl, _, two_rows M5.out [yesI true] [yesI true] 1 1 rfl rfl rfl rfl (by decide) (by decide)⟩
  · go_wp2_with (go_at_call 26; refine (yes_any _ _).mono ?_; rintro e wy ⟨rfl, rfl⟩; dsimp only)
    go_ret2
    exact ⟨_, _, rfl, _, two_rows M5.out [yesI false] [yesI false] 1 1 rfl rfl rfl rfl (by decide) (by decide)⟩
  · go_wp2_with (go_at_call 26; refine (yes_any _ _).mono ?_; rintro e wy ⟨rfl, rfl⟩; dsimp only)
    go_ret2
    exact ⟨_, _, rfl, _, two_rows M5.out [yesI true] [yesI true] 1 1 rfl rfl rfl rfl (by decide) (by decide)⟩
  · go_wp2_with (go_at_call 26; refine (yes_any _ _).mono ?_; rintro e wy ⟨rfl, rfl⟩; dsimp only)
    go_ret2
    exact ⟨_, _, rfl, _, two_rows M5.out [yesI true] [yesI true] 1 1 rfl rfl rfl rfl (by decide) (by decide)⟩
set_option maxRecDepth 100000 in
set_option maxHeartbeats 12800000 in
theorem bs_rs (A : Option Addr) (n c : Nat) (l : List Int) (A' : Option Addr) (n' c' : Nat) (l' : List Int) (now : Int) (w : World) (hr : Rd w 1 A n (ints l)) (hr' : Rd w 1 A' n' (ints l')) (a x r now' : Int) (hs : fitF l (pinsL b_rs.st) = [a]) (hi : fitF l' (pinsL b_rs.ins) = [x, r]) (hnow : wrapF 5 now = now') (_hnn : 0 ≤ now' ∧ now' ≤ 4294967295) (ha : a = 0 ∨ a = 1) (hx : x = 0 ∨ x = 1) (hr0 : r = 0 ∨ r = 1) :
    Calls Tryd.prog 13 #[.string ⟨#[114, 115]⟩, .slice A n c, .slice A' n' c', .int .i64 now] w fun e w' => ∃ g2 g3, e = .returned (.tuple #[.slice (some ⟨g2, 0, none⟩) 1 1, .slice (some ⟨g3, 0, none⟩) 1 1]) ∧ ∃ Os, Mem w w' [] (⟨3, 1, some ⟨g3, 0, none⟩, 1, 1, ints [rsF a x r]⟩ :: ⟨3, 1, some ⟨g2, 0, none⟩, 1, 1, ints [rsF a x r]⟩ :: Os) := by
  have HSH : Hid (Calls Tryd.prog 8 #[.string ⟨#[114, 115]⟩] w _) := ref_reads (b := b_rs) (by simp [bts]) 2 1 (by rw [rs_ins]; rfl) (by rw [rs_st]; rfl) w
  have HR := Lib.hid hr
  have HR' := Lib.hid hr'
  have HSI := Lib.hid (And.intro hs hi)
  have q0 : ((⟨#[114, 115]⟩ : ByteArray).toList == [116, 111, 110]) = false := str_ne (by decide)
  have q1 : ((⟨#[114, 115]⟩ : ByteArray).toList == [116, 111, 102]) = false := str_ne (by decide)
  have q2 : ((⟨#[114, 115]⟩ : ByteArray).toList == [116, 112]) = false := str_ne (by decide)
  have q3 : ((⟨#[114, 115]⟩ : ByteArray).toList == [99, 116, 117]) = false := str_ne (by decide)
  have q4 : ((⟨#[114, 115]⟩ : ByteArray).toList == [99, 116, 100]) = false := str_ne (by decide)
  have q5 : ((⟨#[114, 115]⟩ : ByteArray).toList == [99, 116, 117, 100]) = false := str_ne (by decide)
  have q6 : ((⟨#[114, 115]⟩ : ByteArray).toList == [114, 95, 116, 114, 105, 103]) = false := str_ne (by decide)
  have q7 : ((⟨#[114, 115]⟩ : ByteArray).toList == [102, 95, 116, 114, 105, 103]) = false := str_ne (by decide)
  have q8 : ((⟨#[114, 115]⟩ : ByteArray).toList == [115, 114]) = false := str_ne (by decide)
  have q9 : ((⟨#[114, 115]⟩ : ByteArray).toList == [114, 115]) = true := str_eq rfl
  have q10 : ((⟨#[114, 115]⟩ : ByteArray).toList == [114, 97, 109, 112]) = false := str_ne (by decide)
  have q11 : ((⟨#[114, 115]⟩ : ByteArray).toList == [104, 121, 115, 116]) = false := str_ne (by decide)
  clear hr hr' hs hi
  go_enter Tryd.func13, Tryd.ntmps13
  go_wp2_with fail
  refine HSH.out.mono ?_
  rintro e w1 ⟨g1, gx, g3, n2, rfl, hp1, hp3, hm⟩
  dsimp only
  have HP := Lib.hid (And.intro hp1 hp3)
  have M := Lib.hid hm
  clear hp1 hp3 hm HSH
  have c0 := (hm2 M.out g1 gx g3 2 n2 1).1
  have c2 := (hm2 M.out g1 gx g3 2 n2 1).2
  have M1 := Lib.hid (M.out.alloc 24 #[.slice (some ⟨g1, 0, none⟩) 2 2, .slice (some ⟨gx, 0, none⟩) n2 n2, .slice (some ⟨g3, 0, none⟩) 1 1])
  have HP1 := Lib.hid (And.intro (HP.out.1.alloc (.cells #[.slice (some ⟨g1, 0, none⟩) 2 2, .slice (some ⟨gx, 0, none⟩) n2 n2, .slice (some ⟨g3, 0, none⟩) 1 1] 24)) (HP.out.2.alloc (.cells #[.slice (some ⟨g1, 0, none⟩) 2 2, .slice (some ⟨gx, 0, none⟩) n2 n2, .slice (some ⟨g3, 0, none⟩) 1 1] 24)))
  clear M HP
  go_upto_region 4 with fail
  generalize World.alloc _ _ = w2 at M1 HP1 c0 c2 ⊢
  generalize w1.heap.size = gb at M1 c0 c2 ⊢
  go_wp2_with fail
  refine (taken_any A n c l _ 1 _ (pinsL b_rs.st) w2 (HR.out.below M1.out.bel) HP1.out.2 (by decide)).mono ?_
  rintro e w3 ⟨gs, rfl, ho, hb⟩
  dsimp only
  have M3 := Lib.hid (M1.out.made hb ho)
  have HP3 := Lib.hid (HP1.out.1.below hb)
  have e0 : w3.cell? ⟨gb, 0, none⟩ = some (.slice (some ⟨g1, 0, none⟩) 2 2) := (hb.cell (lt_of_cell c0)).trans c0
  clear M1 HP1 c0 c2 ho hb
  go_wp2_with fail
  refine (taken_any A' n' c' l' _ 2 _ (pinsL b_rs.ins) w3 (HR'.out.below M3.out.bel) HP3.out (by decide)).mono ?_
  rintro e w4 ⟨gi, rfl, ho, hb⟩
  dsimp only
  have M4 := Lib.hid (M3.out.made hb ho)
  clear M3 HP3 e0 ho hb
  go_wp2_with fail
  refine (WrapR_any 5 now w4).mono ?_
  rintro e w5 ⟨rfl, rfl⟩
  dsimp only
  rw [hnow]
  rw [HSI.out.1, HSI.out.2] at M4
  have M5 := Lib.hid (M4.out.delK 0)
  have HS : Hid (Rd w4 1 (some ⟨gs, 0, none⟩) 1 (ints [a])) := M5.out.rdO 1 rfl
  have HI : Hid (Rd w4 1 (some ⟨gi, 0, none⟩) 2 (ints [x, r])) := M5.out.rdO 0 rfl
  clear M4 HSI HR HR' hnow
  have s0 : w4.cell? ⟨gs, 0, none⟩ = some (.int .i64 a) := rd_cells HS.out (by decide) 0 _ rfl
  have i0 : w4.cell? ⟨gi, 0, none⟩ = some (.int .i64 x) := rd_cells HI.out (by decide) 0 _ rfl
  have i1 : w4.cell? ⟨gi, 1, none⟩ = some (.int .i64 r) := rd_cells HI.out (by decide) 1 _ rfl
  clear HS HI
  rcases ha with rfl | rfl <;> rcases hx with rfl | rfl <;> rcases hr0 with rfl | rfl
  · go_wp2_with (go_at_call 26; refine (yes_any _ _).mono ?_; rintro e wy ⟨rfl, rfl⟩; dsimp only)
    go_ret2
    exact ⟨_, _, rfl, _, two_rows M5.out [yesI false] [yesI false] 1 1 rfl rfl rfl rfl (by decide) (by decide)⟩
  · go_wp2_with (go_at_call 26; refine (yes_any _ _).mono ?_; rintro e wy ⟨rfl, rfl⟩; dsimp only)
    go_ret2
    exact ⟨_, _, rfl, _, two_rows M5.out [yesI false] [yesI false] 1 1 rfl rfl rfl rfl (by decide) (by decide)⟩
  · go_wp2_with (go_at_call 26; refine (yes_any _ _).mono ?_; rintro e wy ⟨rfl, rfl⟩; dsimp only)
    go_ret2
    exact ⟨_, _, rfl, _, two_rows M5.out [yesI true] [yesI true] 1 1 rfl rfl rfl rfl (by decide) (by decide)⟩
  · go_wp2_with (go_at_call 26; refine (yes_any _ _).mono ?_; rintro e wy ⟨rfl, rfl⟩; dsimp only)
    go_ret2
    exact ⟨_, _, rfl, _, two_rows M5.out [yesI false] [yesI false] 1 1 rfl rfl rfl rfl (by decide) (by decide)⟩
  · go_wp2_with (go_at_call 26; refine (yes_any _ _).mono ?_; rintro e wy ⟨rfl, rfl⟩; dsimp only)
    go_ret2
    exact ⟨_, _, rfl, _, two_rows M5.out [yesI true] [yesI true] 1 1 rfl rfl rfl rfl (by decide) (by decide)⟩
  · go_wp2_with (go_at_call 26; refine (yes_any _ _).mono ?_; rintro e wy ⟨rfl, rfl⟩; dsimp only)
    go_ret2
    exact ⟨_, _, rfl, _, two_rows M5.out [yesI false] [yesI false] 1 1 rfl rfl rfl rfl (by decide) (by decide)⟩
  · go_wp2_with (go_at_call 26; refine (yes_any _ _).mono ?_; rintro e wy ⟨rfl, rfl⟩; dsimp only)
    go_ret2
    exact ⟨_, _, rfl, _, two_rows M5.out [yesI true] [yesI true] 1 1 rfl rfl rfl rfl (by decide) (by decide)⟩
  · go_wp2_with (go_at_call 26; refine (yes_any _ _).mono ?_; rintro e wy ⟨rfl, rfl⟩; dsimp only)
    go_ret2
    exact ⟨_, _, rfl, _, two_rows M5.out [yesI false] [yesI false] 1 1 rfl rfl rfl rfl (by decide) (by decide)⟩
end Go.Proofs.YthgjjclmepfbpaaDoor.Blk
