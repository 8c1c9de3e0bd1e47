/-
  The reference's count. Conditions: the rows read; the words are of their kinds.
-/
import Derived.Test.YthgjjclmepfbpaaDoorBlkR2
import Derived.Deep.RegionWith
import Derived.Handy
import Derived.Deep.RegionHeld3
import Derived.Deep.CutBlock
namespace Go.Proofs.YthgjjclmepfbpaaDoor.Blk
open Go.RowKit Go.Proofs.YthgjjclmepfbpaaDoor.W Go.Proofs.YthgjjclmepfbpaaDoor.Ints Go.Proofs.YthgjjclmepfbpaaDoor.Cell Go.Proofs.YthgjjclmepfbpaaDoor.Num

theorem two_rows' {w0 w : World} {Ks : List Box} {Os : List Row} (h : Mem w0 w Ks Os) {c1 c2 : Array Value} (l1 l2 : List Int) (n1 n2 : Nat) (e1 : c1.toList = ints l1) (e2 : c2.toList = ints l2) (m1 : l1.length = n1) (m2 : l2.length = n2) (k1 : n1 ≤ 100) (k2 : n2 ≤ 100) :
    Mem w0 ((w.alloc (.cells c2 3)).alloc (.cells c1 3)) Ks (⟨3, 1, some ⟨w.heap.size, 0, none⟩, n2, n2, ints l2⟩ :: ⟨3, 1, some ⟨w.heap.size + 1, 0, none⟩, n1, n1, ints l1⟩ :: Os) :=
  (two_rows h l2 l1 n2 n1 e2 e1 m2 m1 k2 k1).upO 1 rfl
def udC (up down rr ll : Bool) (n v : Int) : Int := if rr then 0 else if ll then v else if up && !down then (if n < 32767 then n + 1 else n) else if down && !up then (if -32768 < n then n - 1 else n) else n
theorem udC_eq (a b n x y r l v : Int) (h1 : -32768 ≤ n) (h2 : n ≤ 32767) : udC (x == 1 && a == 0) (y == 1 && b == 0) (r == 1) (l == 1) n v = udN a b n x y r l v := by
  unfold udC udN
  by_cases c1 : x = 1 <;> by_cases c2 : a = 0 <;> by_cases c3 : y = 1 <;> by_cases c4 : b = 0 <;> by_cases c5 : r = 1 <;> by_cases c6 : l = 1 <;> simp [c1, c2, c3, c4, c5, c6] <;> split <;> omega
set_option maxRecDepth 100000 in
set_option maxHeartbeats 6400000 in
theorem cnt_ud {w0 w : World} {Ks : List Box} {Os : List Row} {gs cs gi ci : Nat} {a b n x y r l v : Int} (h : Mem w0 w Ks Os) (hs : Rd w 1 (some ⟨gs, 0, none⟩) 3 (ints [a, b, n])) (hi : Rd w 1 (some ⟨gi, 0, none⟩) 5 (ints [x, y, r, l, v])) (hn : -32768 ≤ n) (hn' : n ≤ 32767) :
    Calls Tryd.prog 25 #[.string ⟨#[99, 116, 117, 100]⟩, .slice (some ⟨gs, 0, none⟩) 3 cs, .slice (some ⟨gi, 0, none⟩) 5 ci] w fun e w' => ∃ g2 g3, e = .returned (.tuple #[.slice (some ⟨g2, 0, none⟩) 3 3, .slice (some ⟨g3, 0, none⟩) 3 3]) ∧ Mem w0 w' Ks (⟨3, 1, some ⟨g3, 0, none⟩, 3, 3, ints [yesI (decide (v ≤ udN a b n x y r l v)), yesI (decide (udN a b n x y r l v ≤ 0)), udN a b n x y r l v]⟩ :: ⟨3, 1, some ⟨g2, 0, none⟩, 3, 3, ints [x, y, udN a b n x y r l v]⟩ :: Os) := by
  rw [← udC_eq a b n x y r l v hn hn']
  have s0 : w.cell? ⟨gs, 0, none⟩ = some (.int .i64 a) := rd_cells hs (by decide) 0 _ rfl
  have s1 : w.cell? ⟨gs, 1, none⟩ = some (.int .i64 b) := rd_cells hs (by decide) 1 _ rfl
  have s2 : w.cell? ⟨gs, 2, none⟩ = some (.int .i64 n) := rd_cells hs (by decide) 2 _ rfl
  have i0 : w.cell? ⟨gi, 0, none⟩ = some (.int .i64 x) := rd_cells hi (by decide) 0 _ rfl
  have i1 : w.cell? ⟨gi, 1, none⟩ = some (.int .i64 y) := rd_cells hi (by decide) 1 _ rfl
  have i2 : w.cell? ⟨gi, 2, none⟩ = some (.int .i64 r) := rd_cells hi (by decide) 2 _ rfl
  have i3 : w.cell? ⟨gi, 3, none⟩ = some (.int .i64 l) := rd_cells hi (by decide) 3 _ rfl
  have i4 : w.cell? ⟨gi, 4, none⟩ = some (.int .i64 v) := rd_cells hi (by decide) 4 _ rfl
  have M := Lib.hid h
  have hw1 : n < 32767 → IntKind.i64.wrap (n + 1) = n + 1 := fun _ => by simp [IntKind.wrap, IntKind.bits, IntKind.signed]; omega
  have hw2 : -32768 < n → IntKind.i64.wrap (n - 1) = n - 1 := fun _ => by simp [IntKind.wrap, IntKind.bits, IntKind.signed]; omega
  have HW := Lib.hid (And.intro hw1 hw2)
  have q0 : ((⟨#[99, 116, 117, 100]⟩ : ByteArray).toList == [99, 116, 117, 100]) = true := str_eq rfl
  clear h hs hi hn hn' hw1 hw2
  obtain ⟨xa, hxa⟩ : ∃ t, (x == 1) = t := ⟨_, rfl⟩
  obtain ⟨aa, haa⟩ : ∃ t, (a == 0) = t := ⟨_, rfl⟩
  obtain ⟨ya, hya⟩ : ∃ t, (y == 1) = t := ⟨_, rfl⟩
  obtain ⟨ba, hba⟩ : ∃ t, (b == 0) = t := ⟨_, rfl⟩
  obtain ⟨rr, hrr⟩ : ∃ t, (r == 1) = t := ⟨_, rfl⟩
  obtain ⟨ll, hll⟩ : ∃ t, (l == 1) = t := ⟨_, rfl⟩
  rw [hxa, haa, hya, hba, hrr, hll]
  go_enter Tryd.func25, Tryd.ntmps25
  go_upto_region 3 with fail
  go_cut [9, 10] from 18 to 37 (fun v9 v10 wc => v9 = .bool (xa && aa) ∧ v10 = .bool (ya && ba) ∧ ∃ q, wc = w.drewN q)
  case first =>
    cases xa
    · cases ya
      · go_quiet (fail)
        go_wp2
        go_meet
        exact ⟨rfl, rfl, _, rfl⟩
      · go_quiet (fail)
        go_wp2
        go_meet
        exact ⟨rfl, rfl, _, rfl⟩
    · cases ya
      · go_quiet (fail)
        go_wp2
        go_meet
        exact ⟨rfl, rfl, _, rfl⟩
      · go_quiet (fail)
        go_wp2
        go_meet
        exact ⟨rfl, rfl, _, rfl⟩
  case rest =>
    obtain ⟨rfl, rfl, q, rfl⟩ := hcut
    clear hxa haa hya hba
    obtain ⟨up, hup⟩ : ∃ t, (xa && aa) = t := ⟨_, rfl⟩
    rw [hup]
    have Hup := Lib.hid hup
    clear hup
    obtain ⟨down, hdown⟩ : ∃ t, (ya && ba) = t := ⟨_, rfl⟩
    rw [hdown]
    have Hdown := Lib.hid hdown
    clear hdown
    have M1 := Lib.hid (M.out.drewN q)
    have t0 : (w.drewN q).cell? ⟨gs, 0, none⟩ = some (.int .i64 a) := s0
    have k0 : (w.drewN q).cell? ⟨gi, 0, none⟩ = some (.int .i64 x) := i0
    have k1 : (w.drewN q).cell? ⟨gi, 1, none⟩ = some (.int .i64 y) := i1
    have k2 : (w.drewN q).cell? ⟨gi, 2, none⟩ = some (.int .i64 r) := i2
    have k3 : (w.drewN q).cell? ⟨gi, 3, none⟩ = some (.int .i64 l) := i3
    have k4 : (w.drewN q).cell? ⟨gi, 4, none⟩ = some (.int .i64 v) := i4
    clear M s0 s1 s2 i0 i1 i2 i3 i4
    generalize w.drewN q = w1 at M1 t0 k0 k1 k2 k3 k4 ⊢
    go_upto_if 41 with fail
    go_cut [8] from 38 to 70 (fun v8 wc => v8 = .int .i64 (udC up down rr ll n v) ∧ w1 = wc)
    case first =>
      cases rr
      · cases ll
        · cases up
          · cases down
            · go_wp2
              go_meet
              exact ⟨by simp [udC], rfl⟩
            · by_cases hk : -32768 < n
              · have hz := HW.out.2 hk
                go_wp2
                go_meet
                exact ⟨by simp [udC, hk], rfl⟩
              · go_wp2
                go_meet
                exact ⟨by simp [udC, show ¬ -32768 < n by omega], rfl⟩
          · cases down
            · by_cases hk : n < 32767
              · have hz := HW.out.1 hk
                go_wp2
                go_meet
                exact ⟨by simp [udC, hk], rfl⟩
              · go_wp2
                go_meet
                exact ⟨by simp [udC, show ¬ n < 32767 by omega], rfl⟩
            · go_wp2
              go_meet
              exact ⟨by simp [udC], rfl⟩
        · go_wp2
          go_meet
          exact ⟨by simp [udC], rfl⟩
      · go_wp2
        go_meet
        exact ⟨by simp [udC], rfl⟩
    case rest =>
      obtain ⟨rfl, rfl⟩ := hcut
      clear hrr hll HW k2 k3 t0
      obtain ⟨N, hN⟩ : ∃ t, (udC up down rr ll n v) = t := ⟨_, rfl⟩
      rw [hN]
      have HN := Lib.hid hN
      clear hN
      go_upto_region 12 with fail
      have d0 : w1.drew.cell? ⟨gi, 0, none⟩ = some (.int .i64 x) := k0
      have d1 : w1.drew.cell? ⟨gi, 1, none⟩ = some (.int .i64 y) := k1
      have d4 : w1.drew.cell? ⟨gi, 4, none⟩ = some (.int .i64 v) := k4
      have M2 := Lib.hid M1.out.drew
      have hlt := lt_of_cell k0
      have dd : w1.drew.cell? ⟨gi, 0, none⟩ = some (.int .i64 x) ∧ w1.drew.cell? ⟨gi, 1, none⟩ = some (.int .i64 y) ∧ w1.drew.cell? ⟨gi, 4, none⟩ = some (.int .i64 v) := ⟨k0, k1, k4⟩
      clear d0 d1 d4
      go_region_held3 (fun w' => w'.cell? ⟨gi, 0, none⟩ = some (.int .i64 x) ∧ w'.cell? ⟨gi, 1, none⟩ = some (.int .i64 y) ∧ w'.cell? ⟨gi, 4, none⟩ = some (.int .i64 v)) (first | with_reducible assumption | (refine ⟨?_, ?_, ?_⟩ <;> go_simp))
        ((go_at_call 26
          refine (yes_any _ _).mono ?_
          rintro e wy ⟨rfl, rfl⟩
          dsimp only))
      all_goals go_wp2
      all_goals go_ret2
      all_goals rw [Hup.out, Hdown.out, HN.out]
      all_goals refine ⟨_, _, rfl, ?_⟩
      all_goals first
        | exact (two_rows M1.out [x, y, N] [yesI (decide (v ≤ N)), yesI (decide (N ≤ 0)), N] 3 3 rfl rfl rfl rfl (by decide) (by decide)).drew
        | exact (two_rows' M1.out [x, y, N] [yesI (decide (v ≤ N)), yesI (decide (N ≤ 0)), N] 3 3 rfl rfl rfl rfl (by decide) (by decide)).drew
theorem yes_if (p : Prop) [Decidable p] : yesI (decide p) = if p then 1 else 0 := by
  unfold yesI
  simp only [decide_eq_true_eq]
def uC (came rr : Bool) (n : Int) : Int := if rr then 0 else if came then (if n < 32767 then n + 1 else n) else n
theorem uC_eq (p n x r : Int) (h1 : -32768 ≤ n) (h2 : n ≤ 32767) : uC (x == 1 && p == 0) (r == 1) n = ctuN p n x r := by
  unfold uC ctuN
  by_cases c1 : x = 1 <;> by_cases c2 : p = 0 <;> by_cases c5 : r = 1 <;> simp [c1, c2, c5] <;> split <;> omega
def dC (came rr : Bool) (n v : Int) : Int := if rr then v else if came then (if -32768 < n then n - 1 else n) else n
theorem dC_eq (p n x r v : Int) (h1 : -32768 ≤ n) (h2 : n ≤ 32767) : dC (x == 1 && p == 0) (r == 1) n v = ctdN p n x r v := by
  unfold dC ctdN
  by_cases c1 : x = 1 <;> by_cases c2 : p = 0 <;> by_cases c5 : r = 1 <;> simp [c1, c2, c5] <;> split <;> omega
set_option maxRecDepth 100000 in
set_option maxHeartbeats 6400000 in
theorem cnt_u {w0 w : World} {Ks : List Box} {Os : List Row} {gs cs gi ci : Nat} {p n x r v : Int} (h : Mem w0 w Ks Os) (hs : Rd w 1 (some ⟨gs, 0, none⟩) 2 (ints [p, n])) (hi : Rd w 1 (some ⟨gi, 0, none⟩) 3 (ints [x, r, v])) (hn : -32768 ≤ n) (hn' : n ≤ 32767) :
    Calls Tryd.prog 25 #[.string ⟨#[99, 116, 117]⟩, .slice (some ⟨gs, 0, none⟩) 2 cs, .slice (some ⟨gi, 0, none⟩) 3 ci] w fun e w' => ∃ g2 g3, e = .returned (.tuple #[.slice (some ⟨g2, 0, none⟩) 2 2, .slice (some ⟨g3, 0, none⟩) 2 2]) ∧ Mem w0 w' Ks (⟨3, 1, some ⟨g3, 0, none⟩, 2, 2, ints [yesI (decide (v ≤ ctuN p n x r)), ctuN p n x r]⟩ :: ⟨3, 1, some ⟨g2, 0, none⟩, 2, 2, ints [x, ctuN p n x r]⟩ :: Os) := by
  rw [← uC_eq p n x r hn hn']
  have s0 : w.cell? ⟨gs, 0, none⟩ = some (.int .i64 p) := rd_cells hs (by decide) 0 _ rfl
  have s2 : w.cell? ⟨gs, 1, none⟩ = some (.int .i64 n) := rd_cells hs (by decide) 1 _ rfl
  have i0 : w.cell? ⟨gi, 0, none⟩ = some (.int .i64 x) := rd_cells hi (by decide) 0 _ rfl
  have i2 : w.cell? ⟨gi, 1, none⟩ = some (.int .i64 r) := rd_cells hi (by decide) 1 _ rfl
  have i4 : w.cell? ⟨gi, 2, none⟩ = some (.int .i64 v) := rd_cells hi (by decide) 2 _ rfl
  have M := Lib.hid h
  have hw1 : n < 32767 → IntKind.i64.wrap (n + 1) = n + 1 := fun _ => by simp [IntKind.wrap, IntKind.bits, IntKind.signed]; omega
  have hw2 : -32768 < n → IntKind.i64.wrap (n - 1) = n - 1 := fun _ => by simp [IntKind.wrap, IntKind.bits, IntKind.signed]; omega
  have HW := Lib.hid (And.intro hw1 hw2)
  have q0 : ((⟨#[99, 116, 117]⟩ : ByteArray).toList == [99, 116, 117, 100]) = false := str_ne (by decide)
  have q1 : ((⟨#[99, 116, 117]⟩ : ByteArray).toList == [99, 116, 117]) = true := str_eq rfl
  clear h hs hi hn hn' hw1 hw2
  obtain ⟨xa, hxa⟩ : ∃ t, (x == 1) = t := ⟨_, rfl⟩
  obtain ⟨aa, haa⟩ : ∃ t, (p == 0) = t := ⟨_, rfl⟩
  obtain ⟨rr, hrr⟩ : ∃ t, (r == 1) = t := ⟨_, rfl⟩
  rw [hxa, haa, hrr]
  go_enter Tryd.func25, Tryd.ntmps25
  go_upto_region 14 with fail
  go_cut [12] from 93 to 102 (fun v12 wc => v12 = .bool (xa && aa) ∧ w = wc)
  case first =>
    cases xa
    · go_wp2
      go_meet
      exact ⟨rfl, rfl⟩
    · go_wp2
      go_meet
      exact ⟨rfl, rfl⟩
  case rest =>
    obtain ⟨rfl, rfl⟩ := hcut
    clear hxa haa
    obtain ⟨came, hcame⟩ : ∃ t, (xa && aa) = t := ⟨_, rfl⟩
    rw [hcame]
    have Hcame := Lib.hid hcame
    clear hcame
    go_upto_if 108 with fail
    go_cut [11] from 105 to 115 (fun v11 wc => v11 = .int .i64 (uC came rr n) ∧ w = wc)
    case first =>
      cases rr
      · cases came
        · go_wp2
          go_meet
          exact ⟨by simp [uC], rfl⟩
        · by_cases hk : n < 32767
          · have hz := HW.out.1 hk
            go_wp2
            go_meet
            exact ⟨by simp [uC, hk], rfl⟩
          · go_wp2
            go_meet
            exact ⟨by simp [uC, show ¬ n < 32767 by omega], rfl⟩
      · go_wp2
        go_meet
        exact ⟨by simp [uC], rfl⟩
    case rest =>
      obtain ⟨rfl, rfl⟩ := hcut
      clear hrr HW i2 s0 s2
      obtain ⟨N, hN⟩ : ∃ t, (uC came rr n) = t := ⟨_, rfl⟩
      rw [hN]
      have HN := Lib.hid hN
      clear hN
      go_upto_region 20 with fail
      have hlt := lt_of_cell i0
      have M2 := Lib.hid M.out.drew
      have dd : w.drew.cell? ⟨gi, 0, none⟩ = some (.int .i64 x) ∧ w.drew.cell? ⟨gi, 2, none⟩ = some (.int .i64 v) := ⟨i0, i4⟩
      go_region_held3 (fun w' => w'.cell? ⟨gi, 0, none⟩ = some (.int .i64 x) ∧ w'.cell? ⟨gi, 2, none⟩ = some (.int .i64 v)) (first | with_reducible assumption | (refine ⟨?_, ?_⟩ <;> go_simp))
        ((go_at_call 26
          refine (yes_any _ _).mono ?_
          rintro e wy ⟨rfl, rfl⟩
          dsimp only))
      all_goals go_wp2
      all_goals go_ret2
      all_goals rw [Hcame.out, HN.out]
      all_goals refine ⟨_, _, rfl, ?_⟩
      all_goals first
        | exact (two_rows M.out [x, N] [yesI (decide (v ≤ N)), N] 2 2 rfl rfl rfl rfl (by decide) (by decide)).drew
        | exact (two_rows' M.out [x, N] [yesI (decide (v ≤ N)), N] 2 2 rfl rfl rfl rfl (by decide) (by decide)).drew
set_option maxRecDepth 100000 in
set_option maxHeartbeats 6400000 in
theorem cnt_d {w0 w : World} {Ks : List Box} {Os : List Row} {gs cs gi ci : Nat} {p n x r v : Int} (h : Mem w0 w Ks Os) (hs : Rd w 1 (some ⟨gs, 0, none⟩) 2 (ints [p, n])) (hi : Rd w 1 (some ⟨gi, 0, none⟩) 3 (ints [x, r, v])) (hn : -32768 ≤ n) (hn' : n ≤ 32767) :
    Calls Tryd.prog 25 #[.string ⟨#[99, 116, 100]⟩, .slice (some ⟨gs, 0, none⟩) 2 cs, .slice (some ⟨gi, 0, none⟩) 3 ci] w fun e w' => ∃ g2 g3, e = .returned (.tuple #[.slice (some ⟨g2, 0, none⟩) 2 2, .slice (some ⟨g3, 0, none⟩) 2 2]) ∧ Mem w0 w' Ks (⟨3, 1, some ⟨g3, 0, none⟩, 2, 2, ints [yesI (decide (ctdN p n x r v ≤ 0)), ctdN p n x r v]⟩ :: ⟨3, 1, some ⟨g2, 0, none⟩, 2, 2, ints [x, ctdN p n x r v]⟩ :: Os) := by
  rw [← dC_eq p n x r v hn hn']
  have s0 : w.cell? ⟨gs, 0, none⟩ = some (.int .i64 p) := rd_cells hs (by decide) 0 _ rfl
  have s2 : w.cell? ⟨gs, 1, none⟩ = some (.int .i64 n) := rd_cells hs (by decide) 1 _ rfl
  have i0 : w.cell? ⟨gi, 0, none⟩ = some (.int .i64 x) := rd_cells hi (by decide) 0 _ rfl
  have i2 : w.cell? ⟨gi, 1, none⟩ = some (.int .i64 r) := rd_cells hi (by decide) 1 _ rfl
  have i4 : w.cell? ⟨gi, 2, none⟩ = some (.int .i64 v) := rd_cells hi (by decide) 2 _ rfl
  have M := Lib.hid h
  have hw1 : n < 32767 → IntKind.i64.wrap (n + 1) = n + 1 := fun _ => by simp [IntKind.wrap, IntKind.bits, IntKind.signed]; omega
  have hw2 : -32768 < n → IntKind.i64.wrap (n - 1) = n - 1 := fun _ => by simp [IntKind.wrap, IntKind.bits, IntKind.signed]; omega
  have HW := Lib.hid (And.intro hw1 hw2)
  have q0 : ((⟨#[99, 116, 100]⟩ : ByteArray).toList == [99, 116, 117, 100]) = false := str_ne (by decide)
  have q1 : ((⟨#[99, 116, 100]⟩ : ByteArray).toList == [99, 116, 117]) = false := str_ne (by decide)
  clear h hs hi hn hn' hw1 hw2
  obtain ⟨xa, hxa⟩ : ∃ t, (x == 1) = t := ⟨_, rfl⟩
  obtain ⟨aa, haa⟩ : ∃ t, (p == 0) = t := ⟨_, rfl⟩
  obtain ⟨rr, hrr⟩ : ∃ t, (r == 1) = t := ⟨_, rfl⟩
  rw [hxa, haa, hrr]
  go_enter Tryd.func25, Tryd.ntmps25
  go_upto_region 14 with fail
  go_cut [12] from 93 to 102 (fun v12 wc => v12 = .bool (xa && aa) ∧ w = wc)
  case first =>
    cases xa
    · go_wp2
      go_meet
      exact ⟨rfl, rfl⟩
    · go_wp2
      go_meet
      exact ⟨rfl, rfl⟩
  case rest =>
    obtain ⟨rfl, rfl⟩ := hcut
    clear hxa haa
    obtain ⟨came, hcame⟩ : ∃ t, (xa && aa) = t := ⟨_, rfl⟩
    rw [hcame]
    have Hcame := Lib.hid hcame
    clear hcame
    go_upto_if 132 with fail
    go_cut [11] from 129 to 142 (fun v11 wc => v11 = .int .i64 (dC came rr n v) ∧ w = wc)
    case first =>
      cases rr
      · cases came
        · go_wp2
          go_meet
          exact ⟨by simp [dC], rfl⟩
        · by_cases hk : -32768 < n
          · have hz := HW.out.2 hk
            go_wp2
            go_meet
            exact ⟨by simp [dC, hk], rfl⟩
          · go_wp2
            go_meet
            exact ⟨by simp [dC, show ¬ -32768 < n by omega], rfl⟩
      · go_wp2
        go_meet
        exact ⟨by simp [dC], rfl⟩
    case rest =>
      obtain ⟨rfl, rfl⟩ := hcut
      clear hrr HW i2 s0 s2
      obtain ⟨N, hN⟩ : ∃ t, (dC came rr n v) = t := ⟨_, rfl⟩
      rw [hN]
      have HN := Lib.hid hN
      clear hN
      go_upto_region 25 with fail
      have hlt := lt_of_cell i0
      have M2 := Lib.hid M.out.drew
      have dd : w.drew.cell? ⟨gi, 0, none⟩ = some (.int .i64 x) := i0
      go_region_held3 (fun w' => w'.cell? ⟨gi, 0, none⟩ = some (.int .i64 x)) (first | with_reducible assumption | go_simp)
        ((go_at_call 26
          refine (yes_any _ _).mono ?_
          rintro e wy ⟨rfl, rfl⟩
          dsimp only))
      all_goals go_wp2
      all_goals go_ret2
      all_goals rw [Hcame.out, HN.out]
      all_goals refine ⟨_, _, rfl, ?_⟩
      all_goals first
        | exact (two_rows M.out [x, N] [yesI (decide (N ≤ 0)), N] 2 2 rfl rfl rfl rfl (by decide) (by decide)).drew
        | exact (two_rows' M.out [x, N] [yesI (decide (N ≤ 0)), N] 2 2 rfl rfl rfl rfl (by decide) (by decide)).drew
end Go.Proofs.YthgjjclmepfbpaaDoor.Blk
