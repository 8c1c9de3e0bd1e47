/-
  What is shown, in plain words; the reference's Decimal. No conditions but that the number fits a machine.
-/
import Derived.Test.YtckjnlonijodcaaDoorTxC
import Derived.Lib.ItoaNum
import Derived.Handy
import Derived.Deep.DeepCutAuto
import Derived.Deep.RegionHeld3
namespace Go.Proofs.YtckjnlonijodcaaDoor.Tx
open Go.RowKit Go.Proofs.YtckjnlonijodcaaDoor.W Go.Proofs.YtckjnlonijodcaaDoor.Num Go.Proofs.YtckjnlonijodcaaDoor.Cell

theorem one_byte {w : World} {g : Nat} {z : Int} {C : UInt8} (h : Blk w g 5 #[.int .u8 z]) (hz : z = (C.toNat : Int)) : (convert 29 9 (.slice (some ⟨g, 0, none⟩) 1 1)).run Tryd.prog w = .ok (.string (strB [C])) w := by
  have hc : ∀ i, i < 1 → w.cell? ⟨g, i, none⟩ = some (.int .u8 (([C].getD i 0).toNat : Int)) := by
    intro i hi
    have h0 : i = 0 := by omega
    subst h0
    rw [h.cell 0]
    simp [hz]
  exact conv_cells (P := Tryd.prog) (bs := [C]) (g := g) (n := 1) (c := 1) rfl hc 29 5 9 Tryd.underlying29 Tryd.underlying5 Tryd.underlying9
theorem dec_one {u : Nat} (h : u < 10) : Go.Lib.decDigits u = [UInt8.ofNat (48 + u)] := by rw [Go.Lib.decDigits, dif_pos h]
theorem dec_more {u : Nat} (h : ¬ u < 10) : Go.Lib.decDigits u = Go.Lib.decDigits (u / 10) ++ [UInt8.ofNat (48 + u % 10)] := by rw [Go.Lib.decDigits, dif_neg h]
theorem itoa_nat (u : Nat) : Go.Lib.itoa (u : Int) = Go.Lib.decDigits u := by unfold Go.Lib.itoa; rw [if_neg (by omega)]; simp
theorem itoa_neg {u : Nat} (h : 0 < u) : Go.Lib.itoa (-(u : Int)) = 45 :: Go.Lib.decDigits u := by unfold Go.Lib.itoa; rw [if_pos (by omega)]; simp
theorem app_str (a b : List UInt8) : strB a ++ strB b = strB (a ++ b) := by
  apply ByteArray.ext
  simp [strB]
theorem dec_len : ∀ u : Nat, (Go.Lib.decDigits u).length ≤ u + 1 := by
  intro u
  induction u using Nat.strongRecOn with
  | _ u ih =>
    by_cases h : u < 10
    · rw [dec_one h]; simp
    · rw [dec_more h, List.length_append]
      have := ih (u / 10) (by omega)
      simp
      omega
theorem toNat_48 {d : Nat} (h : d < 10) : (UInt8.ofNat (48 + d)).toNat = 48 + d := by simp; omega
set_option maxRecDepth 100000 in
set_option maxHeartbeats 6400000 in
theorem dec_0 (u : Nat) (w : World) (h : u < 10) : Calls Tryd.prog 31 #[.int .i64 (u : Int)] w fun e w' => e = .returned (.string (strB (Go.Lib.decDigits u))) ∧ Below w.heap.size w w' := by
  obtain ⟨C, hC⟩ : ∃ C, UInt8.ofNat (48 + u) = C := ⟨_, rfl⟩
  have HR : Hid (Go.Lib.decDigits u = [C]) := Lib.hid (by rw [← hC]; exact dec_one h)
  have hq := one_byte (C := C) (Blk.new w 5 #[.int .u8 (48 + (u : Int))]) (by rw [← hC, toNat_48 h]; omega)
  clear hC
  go_enter Tryd.func31, Tryd.ntmps31
  go_wp2
  go_ret
  exact ⟨by rw [HR.out]; rfl, W.below_alloc _⟩
set_option maxRecDepth 100000 in
set_option maxHeartbeats 6400000 in
theorem dec_pos (u : Nat) (w : World) (h : ¬ u < 10) (hu : u ≤ 1099511627776) (hrec : ∀ W, Calls Tryd.prog 31 #[.int .i64 ((u / 10 : Nat) : Int)] W fun e w' => e = .returned (.string (strB (Go.Lib.decDigits (u / 10)))) ∧ Below W.heap.size W w') :
    Calls Tryd.prog 31 #[.int .i64 (u : Int)] w fun e w' => e = .returned (.string (strB (Go.Lib.decDigits u))) ∧ Below w.heap.size w w' := by
  obtain ⟨C, hC0⟩ : ∃ C, UInt8.ofNat (48 + u % 10) = C := ⟨_, rfl⟩
  obtain ⟨l1, hl1⟩ : ∃ l1, Go.Lib.decDigits (u / 10) = l1 := ⟨_, rfl⟩
  rw [hl1] at hrec
  have hlen : ¬ 9223372036854775807 < l1.length + 1 := by have := dec_len (u / 10); rw [hl1] at this; omega
  have HR : Hid (strB l1 ++ strB [C] = strB (Go.Lib.decDigits u)) := Lib.hid (by rw [app_str, dec_more h, hl1, hC0])
  obtain ⟨x, hx⟩ : ∃ x : Int, (u : Int).tmod 10 = x := ⟨_, rfl⟩
  have hx' : x = ((u % 10 : Nat) : Int) := by rw [← hx, Int.tmod_eq_emod_of_nonneg (by omega)]; omega
  have hC : (48 + x : Int) = (C.toNat : Int) := by rw [← hC0, toNat_48 (Nat.mod_lt _ (by omega))]; omega
  have HC := Lib.hid hC
  have hx0 : 0 ≤ x := by omega
  have hx1 : x ≤ 9 := by omega
  obtain ⟨y, hy⟩ : ∃ y : Int, ((u / 10 : Nat) : Int) = y := ⟨_, rfl⟩
  rw [hy] at hrec
  have hw1 : IntKind.i64.wrap ((u : Int) / 10) = y := by rw [IntWalk.i64_left, wrap64_in _ (by omega) (by omega)]; omega
  have hw2 : IntKind.i64.wrap (48 + x) = 48 + x := by rw [IntWalk.i64_left, wrap64_in _ (by omega) (by omega)]
  have hw3 : IntKind.u8.wrap (48 + x) = 48 + x := by simp [IntKind.wrap, IntKind.bits, IntKind.signed]; omega
  clear hx' hy
  have hu0 : ¬ (u : Int) ≤ 9 := by omega
  clear hC hC0 hl1 h
  have B0 : Hid (Below w.heap.size w w.drew) := Lib.hid (W.below_drewN (Below.refl _ _) 1)
  go_enter Tryd.func31, Tryd.ntmps31
  go_upto_region 6 with fail
  refine wp_region_held_drew (S := fun _ => True) (by kernel_rfl) ?_ (fun hHeld => ?_)
  · exact trivial
  refine wpAnyH_take (i := 0) (v := ?_) rfl (by kernel_rfl) (by kernel_rfl) (by kernel_rfl) (fun _ _ _ h => h) (Or.inl ⟨by rfl, ?_⟩) (by assumption) ?_
  rotate_left
  · intro w' hSw
    (try dsimp only at hSw)
    go_simp
    try with_reducible rfl
  try simp only [Act.put, List.getElem_toArray, List.getElem_cons_zero, List.setIfInBounds_toArray, List.set_cons_zero, List.set_cons_succ]
  refine wpAnyH_take (i := 1) (v := ?_) rfl (by kernel_rfl) (by kernel_rfl) (by kernel_rfl) (fun _ _ _ h => h) (Or.inl ⟨by rfl, ?_⟩) (by assumption) ?_
  rotate_left
  · intro w' hSw
    (try dsimp only at hSw)
    go_simp
    try with_reducible rfl
  try simp only [Act.put, List.getElem_toArray, List.getElem_cons_zero, List.getElem_cons_succ, List.setIfInBounds_toArray, List.set_cons_zero, List.set_cons_succ]
  refine wpAnyH_take (i := 3) (v := ?_) rfl (by kernel_rfl) (by kernel_rfl) (by kernel_rfl) (fun _ _ _ h => h) (Or.inl ⟨by rfl, ?_⟩) (by assumption) ?_
  rotate_left
  · intro w' hSw
    (try dsimp only at hSw)
    go_simp
    try with_reducible rfl
  try simp only [Act.put, List.getElem_toArray, List.getElem_cons_zero, List.getElem_cons_succ, List.setIfInBounds_toArray, List.set_cons_zero, List.set_cons_succ]
  refine wpAnyH_take (i := 4) (v := ?_) rfl (by kernel_rfl) (by kernel_rfl) (by kernel_rfl) (fun _ _ _ h => h) (Or.inl ⟨by rfl, ?_⟩) (by assumption) ?_
  rotate_left
  · intro w' hSw
    (try dsimp only at hSw)
    go_simp
    try with_reducible rfl
  try simp only [Act.put, List.getElem_toArray, List.getElem_cons_zero, List.getElem_cons_succ, List.setIfInBounds_toArray, List.set_cons_zero, List.set_cons_succ]
  refine wpAnyH_take (i := 5) (v := ?_) rfl (by kernel_rfl) (by kernel_rfl) (by kernel_rfl) (fun _ _ _ h => h) (Or.inl ⟨by rfl, ?_⟩) (by assumption) ?_
  rotate_left
  · intro w' hSw
    (try dsimp only at hSw)
    go_simp
    try with_reducible rfl
  try simp only [Act.put, List.getElem_toArray, List.getElem_cons_zero, List.getElem_cons_succ, List.setIfInBounds_toArray, List.set_cons_zero, List.set_cons_succ]
  refine wpAnyH_take (i := 6) (v := ?_) rfl (by kernel_rfl) (by kernel_rfl) (by kernel_rfl) (fun _ _ _ h => h) (Or.inl ⟨by rfl, ?_⟩) (by assumption) ?_
  rotate_left
  · intro w' hSw
    (try dsimp only at hSw)
    go_simp
    try with_reducible rfl
  try simp only [Act.put, List.getElem_toArray, List.getElem_cons_zero, List.getElem_cons_succ, List.setIfInBounds_toArray, List.set_cons_zero, List.set_cons_succ]
  refine wpAnyH_ready (rs := [2, 7]) (by kernel_rfl) (by simp) ?_
  refine (AllReadyH.cons rfl (fun K hK => ?_) (AllReadyH.cons rfl (fun K hK => ?_) AllReadyH.nil))
  · have HKK := Lib.hid hK
    clear hK
    go_simp
    refine (hrec _).mono ?_
    rintro e w7 ⟨rfl, hb0⟩
    try dsimp only
    have B1 : Hid (Below w.heap.size w w7) := Lib.hid (B0.out.trans (hb0.mono B0.out.size))
    clear hb0
    refine HKK.out _ _ trivial (fun hHeld => ?_)
    clear HKK K
    try simp only [Act.put, List.getElem_toArray, List.getElem_cons_zero, List.getElem_cons_succ, List.setIfInBounds_toArray, List.set_cons_zero, List.set_cons_succ]
    refine wpAnyH_ready (rs := [7]) (by kernel_rfl) (by simp) ?_
    refine (AllReadyH.cons rfl (fun K hK => ?_) AllReadyH.nil)
    have HKK := Lib.hid hK
    clear hK
    have B2 : Hid (Below w.heap.size w (World.alloc w7 (.cells #[.int .u8 (48 + x)] 5))) := Lib.hid (B1.out.trans ((below_alloc _).mono B1.out.size))
    have kb : Blk (World.alloc w7 (.cells #[.int .u8 (48 + x)] 5)) (World.heap w7).size 5 #[.int .u8 (48 + x)] := Blk.new _ _ _
    have KB2 := Lib.hid kb
    clear kb
    go_simp
    refine HKK.out _ _ trivial (fun hHeld => ?_)
    clear HKK K
    try simp only [Act.put, List.getElem_toArray, List.getElem_cons_zero, List.getElem_cons_succ, List.setIfInBounds_toArray, List.set_cons_zero, List.set_cons_succ]
    refine wpAnyH_ready (rs := [8]) (by kernel_rfl) (by simp) ?_
    refine (AllReadyH.cons rfl (fun K hK => ?_) AllReadyH.nil)
    have HKK := Lib.hid hK
    clear hK
    have hq : (convert 29 9 (.slice (some ⟨(World.heap w7).size, 0, none⟩) 1 1)).run Tryd.prog (World.alloc w7 (.cells #[.int .u8 (48 + x)] 5)) = .ok (.string (strB [C])) (World.alloc w7 (.cells #[.int .u8 (48 + x)] 5)) := one_byte KB2.out HC.out
    try simp only [World.size_alloc, World.size_drew] at hq
    go_simp
    clear hq
    refine HKK.out _ _ trivial (fun hHeld => ?_)
    clear HKK K
    try simp only [Act.put, List.getElem_toArray, List.getElem_cons_zero, List.getElem_cons_succ, List.setIfInBounds_toArray, List.set_cons_zero, List.set_cons_succ]
    refine wpAnyH_take (i := 9) (v := ?_) rfl (by kernel_rfl) (by kernel_rfl) (by kernel_rfl) (fun _ _ _ h => h) (Or.inl ⟨by rfl, ?_⟩) (by assumption) ?_
    rotate_left
    · intro w' hSw
      (try dsimp only at hSw)
      go_simp
      try with_reducible rfl
    try simp only [Act.put, List.getElem_toArray, List.getElem_cons_zero, List.getElem_cons_succ, List.setIfInBounds_toArray, List.set_cons_zero, List.set_cons_succ]
    refine wpAnyH_take (i := 10) (v := ?_) rfl (by kernel_rfl) (by kernel_rfl) (by kernel_rfl) (fun _ _ _ h => h) (Or.inl ⟨by rfl, ?_⟩) (by assumption) ?_
    rotate_left
    · intro w' hSw
      (try dsimp only at hSw)
      go_simp
      try with_reducible rfl
    try simp only [Act.put, List.getElem_toArray, List.getElem_cons_zero, List.getElem_cons_succ, List.setIfInBounds_toArray, List.set_cons_zero, List.set_cons_succ]
    refine wpAnyH_done (by kernel_rfl) ?_ _
    clear hHeld
    go_wp2
    go_ret
    exact ⟨by rw [HR.out]; rfl, B2.out⟩
  · have HKK := Lib.hid hK
    clear hK
    have B1 : Hid (Below w.heap.size w (World.drew (World.alloc w (.cells #[.int .u8 (48 + x)] 5)))) := Lib.hid (W.below_drewN (W.below_alloc _) 1)
    have kb : Blk (World.drew (World.alloc w (.cells #[.int .u8 (48 + x)] 5))) (World.heap w).size 5 #[.int .u8 (48 + x)] := (Blk.new w _ _).drew
    have KB1 := Lib.hid kb
    clear kb
    go_simp
    refine HKK.out _ _ trivial (fun hHeld => ?_)
    clear HKK K
    try simp only [Act.put, List.getElem_toArray, List.getElem_cons_zero, List.getElem_cons_succ, List.setIfInBounds_toArray, List.set_cons_zero, List.set_cons_succ]
    refine wpAnyH_ready (rs := [2, 8]) (by kernel_rfl) (by simp) ?_
    refine (AllReadyH.cons rfl (fun K hK => ?_) (AllReadyH.cons rfl (fun K hK => ?_) AllReadyH.nil))
    · have HKK := Lib.hid hK
      clear hK
      go_simp
      refine (hrec _).mono ?_
      rintro e w8 ⟨rfl, hb1⟩
      try dsimp only
      have B2 : Hid (Below w.heap.size w w8) := Lib.hid (B1.out.trans (hb1.mono B1.out.size))
      have KB2 := Lib.hid (KB1.out.below hb1)
      clear hb1
      refine HKK.out _ _ trivial (fun hHeld => ?_)
      clear HKK K
      try simp only [Act.put, List.getElem_toArray, List.getElem_cons_zero, List.getElem_cons_succ, List.setIfInBounds_toArray, List.set_cons_zero, List.set_cons_succ]
      refine wpAnyH_ready (rs := [8]) (by kernel_rfl) (by simp) ?_
      refine (AllReadyH.cons rfl (fun K hK => ?_) AllReadyH.nil)
      have HKK := Lib.hid hK
      clear hK
      have hq : (convert 29 9 (.slice (some ⟨(World.heap w).size, 0, none⟩) 1 1)).run Tryd.prog w8 = .ok (.string (strB [C])) w8 := one_byte KB2.out HC.out
      try simp only [World.size_alloc, World.size_drew] at hq
      go_simp
      clear hq
      refine HKK.out _ _ trivial (fun hHeld => ?_)
      clear HKK K
      try simp only [Act.put, List.getElem_toArray, List.getElem_cons_zero, List.getElem_cons_succ, List.setIfInBounds_toArray, List.set_cons_zero, List.set_cons_succ]
      refine wpAnyH_take (i := 9) (v := ?_) rfl (by kernel_rfl) (by kernel_rfl) (by kernel_rfl) (fun _ _ _ h => h) (Or.inl ⟨by rfl, ?_⟩) (by assumption) ?_
      rotate_left
      · intro w' hSw
        (try dsimp only at hSw)
        go_simp
        try with_reducible rfl
      try simp only [Act.put, List.getElem_toArray, List.getElem_cons_zero, List.getElem_cons_succ, List.setIfInBounds_toArray, List.set_cons_zero, List.set_cons_succ]
      refine wpAnyH_take (i := 10) (v := ?_) rfl (by kernel_rfl) (by kernel_rfl) (by kernel_rfl) (fun _ _ _ h => h) (Or.inl ⟨by rfl, ?_⟩) (by assumption) ?_
      rotate_left
      · intro w' hSw
        (try dsimp only at hSw)
        go_simp
        try with_reducible rfl
      try simp only [Act.put, List.getElem_toArray, List.getElem_cons_zero, List.getElem_cons_succ, List.setIfInBounds_toArray, List.set_cons_zero, List.set_cons_succ]
      refine wpAnyH_done (by kernel_rfl) ?_ _
      clear hHeld
      go_wp2
      go_ret
      exact ⟨by rw [HR.out]; rfl, B2.out⟩
    · have HKK := Lib.hid hK
      clear hK
      have hq : (convert 29 9 (.slice (some ⟨(World.heap w).size, 0, none⟩) 1 1)).run Tryd.prog (World.drew (World.alloc w (.cells #[.int .u8 (48 + x)] 5))) = .ok (.string (strB [C])) (World.drew (World.alloc w (.cells #[.int .u8 (48 + x)] 5))) := one_byte KB1.out HC.out
      try simp only [World.size_alloc, World.size_drew] at hq
      go_simp
      clear hq
      refine HKK.out _ _ trivial (fun hHeld => ?_)
      clear HKK K
      try simp only [Act.put, List.getElem_toArray, List.getElem_cons_zero, List.getElem_cons_succ, List.setIfInBounds_toArray, List.set_cons_zero, List.set_cons_succ]
      refine wpAnyH_ready (rs := [2]) (by kernel_rfl) (by simp) ?_
      refine (AllReadyH.cons rfl (fun K hK => ?_) AllReadyH.nil)
      have HKK := Lib.hid hK
      clear hK
      go_simp
      refine (hrec _).mono ?_
      rintro e w8 ⟨rfl, hb1⟩
      try dsimp only
      have B2 : Hid (Below w.heap.size w w8) := Lib.hid (B1.out.trans (hb1.mono B1.out.size))
      have KB2 := Lib.hid (KB1.out.below hb1)
      clear hb1
      refine HKK.out _ _ trivial (fun hHeld => ?_)
      clear HKK K
      try simp only [Act.put, List.getElem_toArray, List.getElem_cons_zero, List.getElem_cons_succ, List.setIfInBounds_toArray, List.set_cons_zero, List.set_cons_succ]
      refine wpAnyH_take (i := 9) (v := ?_) rfl (by kernel_rfl) (by kernel_rfl) (by kernel_rfl) (fun _ _ _ h => h) (Or.inl ⟨by rfl, ?_⟩) (by assumption) ?_
      rotate_left
      · intro w' hSw
        (try dsimp only at hSw)
        go_simp
        try with_reducible rfl
      try simp only [Act.put, List.getElem_toArray, List.getElem_cons_zero, List.getElem_cons_succ, List.setIfInBounds_toArray, List.set_cons_zero, List.set_cons_succ]
      refine wpAnyH_take (i := 10) (v := ?_) rfl (by kernel_rfl) (by kernel_rfl) (by kernel_rfl) (fun _ _ _ h => h) (Or.inl ⟨by rfl, ?_⟩) (by assumption) ?_
      rotate_left
      · intro w' hSw
        (try dsimp only at hSw)
        go_simp
        try with_reducible rfl
      try simp only [Act.put, List.getElem_toArray, List.getElem_cons_zero, List.getElem_cons_succ, List.setIfInBounds_toArray, List.set_cons_zero, List.set_cons_succ]
      refine wpAnyH_done (by kernel_rfl) ?_ _
      clear hHeld
      go_wp2
      go_ret
      exact ⟨by rw [HR.out]; rfl, B2.out⟩
theorem Decimal_nat : ∀ (u : Nat) (w : World), u ≤ 1099511627776 → Calls Tryd.prog 31 #[.int .i64 (u : Int)] w fun e w' => e = .returned (.string (strB (Go.Lib.decDigits u))) ∧ Below w.heap.size w w' := by
  intro u
  induction u using Nat.strongRecOn with
  | _ u ih =>
    intro w hu
    by_cases h : u < 10
    · exact dec_0 u w h
    · exact dec_pos u w h hu fun W => ih (u / 10) (by omega) W (by omega)
set_option maxRecDepth 100000 in
set_option maxHeartbeats 6400000 in
theorem neg_0 (u : Nat) (z : Int) (hz : z = -(u : Int)) (w : World) (h0 : 0 < u) (h : u < 10) : Calls Tryd.prog 31 #[.int .i64 z] w fun e w' => e = .returned (.string (strB (45 :: Go.Lib.decDigits u))) ∧ Below w.heap.size w w' := by
  obtain ⟨C, hC⟩ : ∃ C, UInt8.ofNat (48 + u) = C := ⟨_, rfl⟩
  have HR : Hid (strB [45] ++ strB [C] = strB (45 :: Go.Lib.decDigits u)) := Lib.hid (by rw [app_str, ← hC, dec_one h]; rfl)
  obtain ⟨x, hx⟩ : ∃ x : Int, z.tmod 10 = x := ⟨_, rfl⟩
  have hx' : x = -(u : Int) := by rw [← hx, hz, Int.neg_tmod, Int.tmod_eq_emod_of_nonneg (by omega)]; omega
  have hq := one_byte (C := C) (Blk.new w 5 #[.int .u8 (48 - x)]) (by rw [← hC, toNat_48 h]; omega)
  have hx0 : -9 ≤ x := by omega
  have hx1 : x ≤ 0 := by omega
  have hz0 : z < 0 := by omega
  have hz1 : ¬ z < -9 := by omega
  clear hC hx' hz h0 h
  go_enter Tryd.func31, Tryd.ntmps31
  go_wp2
  go_ret
  exact ⟨by rw [← HR.out]; rfl, W.below_alloc _⟩
set_option maxRecDepth 100000 in
set_option maxHeartbeats 6400000 in
theorem neg_pos (u : Nat) (z y : Int) (hz : z = -(u : Int)) (hy : y = -((u / 10 : Nat) : Int)) (w : World) (h : ¬ u < 10) (hu : u ≤ 1099511627776) (hrec : ∀ W, Calls Tryd.prog 31 #[.int .i64 y] W fun e w' => e = .returned (.string (strB (45 :: Go.Lib.decDigits (u / 10)))) ∧ Below W.heap.size W w') :
    Calls Tryd.prog 31 #[.int .i64 z] w fun e w' => e = .returned (.string (strB (45 :: Go.Lib.decDigits u))) ∧ Below w.heap.size w w' := by
  obtain ⟨C, hC0⟩ : ∃ C, UInt8.ofNat (48 + u % 10) = C := ⟨_, rfl⟩
  obtain ⟨l1, hl1⟩ : ∃ l1, 45 :: Go.Lib.decDigits (u / 10) = l1 := ⟨_, rfl⟩
  rw [hl1] at hrec
  have hlen : ¬ 9223372036854775807 < l1.length + 1 := by have := dec_len (u / 10); rw [← hl1, List.length_cons]; omega
  have HR : Hid (strB l1 ++ strB [C] = strB (45 :: Go.Lib.decDigits u)) := Lib.hid (by rw [app_str, dec_more h, ← hl1, hC0]; rfl)
  obtain ⟨x, hx⟩ : ∃ x : Int, z.tmod 10 = x := ⟨_, rfl⟩
  have hx' : x = -((u % 10 : Nat) : Int) := by rw [← hx, hz, Int.neg_tmod, Int.tmod_eq_emod_of_nonneg (by omega)]; omega
  have hd : z.tdiv 10 = y := by rw [hz, Int.neg_tdiv, hy, Int.tdiv_eq_ediv_of_nonneg (by omega)]; omega
  have hC : (48 - x : Int) = (C.toNat : Int) := by rw [← hC0, toNat_48 (Nat.mod_lt _ (by omega))]; omega
  have HC := Lib.hid hC
  have hx0 : -9 ≤ x := by omega
  have hx1 : x ≤ 0 := by omega
  have hw1 : IntKind.i64.wrap y = y := by rw [IntWalk.i64_left, wrap64_in _ (by omega) (by omega)]
  have hw2 : IntKind.i64.wrap (48 - x) = 48 - x := by rw [IntWalk.i64_left, wrap64_in _ (by omega) (by omega)]
  have hw3 : IntKind.u8.wrap (48 - x) = 48 - x := by simp [IntKind.wrap, IntKind.bits, IntKind.signed]; omega
  have hz0 : z < 0 := by omega
  have hz1 : z < -9 := by omega
  clear hx' hC hC0 hl1 h hz hy
  have B0 : Hid (Below w.heap.size w w.drew) := Lib.hid (W.below_drewN (Below.refl _ _) 1)
  go_enter Tryd.func31, Tryd.ntmps31
  go_upto_region 3 with fail
  refine wp_region_held_drew (S := fun _ => True) (by kernel_rfl) ?_ (fun hHeld => ?_)
  · exact trivial
  refine wpAnyH_take (i := 0) (v := ?_) rfl (by kernel_rfl) (by kernel_rfl) (by kernel_rfl) (fun _ _ _ h => h) (Or.inl ⟨by rfl, ?_⟩) (by assumption) ?_
  rotate_left
  · intro w' hSw
    (try dsimp only at hSw)
    go_simp
    try with_reducible rfl
  try simp only [Act.put, List.getElem_toArray, List.getElem_cons_zero, List.setIfInBounds_toArray, List.set_cons_zero, List.set_cons_succ]
  refine wpAnyH_take (i := 1) (v := ?_) rfl (by kernel_rfl) (by kernel_rfl) (by kernel_rfl) (fun _ _ _ h => h) (Or.inl ⟨by rfl, ?_⟩) (by assumption) ?_
  rotate_left
  · intro w' hSw
    (try dsimp only at hSw)
    go_simp
    try with_reducible rfl
  try simp only [Act.put, List.getElem_toArray, List.getElem_cons_zero, List.getElem_cons_succ, List.setIfInBounds_toArray, List.set_cons_zero, List.set_cons_succ]
  refine wpAnyH_take (i := 3) (v := ?_) rfl (by kernel_rfl) (by kernel_rfl) (by kernel_rfl) (fun _ _ _ h => h) (Or.inl ⟨by rfl, ?_⟩) (by assumption) ?_
  rotate_left
  · intro w' hSw
    (try dsimp only at hSw)
    go_simp
    try with_reducible rfl
  try simp only [Act.put, List.getElem_toArray, List.getElem_cons_zero, List.getElem_cons_succ, List.setIfInBounds_toArray, List.set_cons_zero, List.set_cons_succ]
  refine wpAnyH_take (i := 4) (v := ?_) rfl (by kernel_rfl) (by kernel_rfl) (by kernel_rfl) (fun _ _ _ h => h) (Or.inl ⟨by rfl, ?_⟩) (by assumption) ?_
  rotate_left
  · intro w' hSw
    (try dsimp only at hSw)
    go_simp
    try with_reducible rfl
  try simp only [Act.put, List.getElem_toArray, List.getElem_cons_zero, List.getElem_cons_succ, List.setIfInBounds_toArray, List.set_cons_zero, List.set_cons_succ]
  refine wpAnyH_take (i := 5) (v := ?_) rfl (by kernel_rfl) (by kernel_rfl) (by kernel_rfl) (fun _ _ _ h => h) (Or.inl ⟨by rfl, ?_⟩) (by assumption) ?_
  rotate_left
  · intro w' hSw
    (try dsimp only at hSw)
    go_simp
    try with_reducible rfl
  try simp only [Act.put, List.getElem_toArray, List.getElem_cons_zero, List.getElem_cons_succ, List.setIfInBounds_toArray, List.set_cons_zero, List.set_cons_succ]
  refine wpAnyH_take (i := 6) (v := ?_) rfl (by kernel_rfl) (by kernel_rfl) (by kernel_rfl) (fun _ _ _ h => h) (Or.inl ⟨by rfl, ?_⟩) (by assumption) ?_
  rotate_left
  · intro w' hSw
    (try dsimp only at hSw)
    go_simp
    try with_reducible rfl
  try simp only [Act.put, List.getElem_toArray, List.getElem_cons_zero, List.getElem_cons_succ, List.setIfInBounds_toArray, List.set_cons_zero, List.set_cons_succ]
  refine wpAnyH_ready (rs := [2, 7]) (by kernel_rfl) (by simp) ?_
  refine (AllReadyH.cons rfl (fun K hK => ?_) (AllReadyH.cons rfl (fun K hK => ?_) AllReadyH.nil))
  · have HKK := Lib.hid hK
    clear hK
    go_simp
    refine (hrec _).mono ?_
    rintro e w7 ⟨rfl, hb0⟩
    try dsimp only
    have B1 : Hid (Below w.heap.size w w7) := Lib.hid (B0.out.trans (hb0.mono B0.out.size))
    clear hb0
    refine HKK.out _ _ trivial (fun hHeld => ?_)
    clear HKK K
    try simp only [Act.put, List.getElem_toArray, List.getElem_cons_zero, List.getElem_cons_succ, List.setIfInBounds_toArray, List.set_cons_zero, List.set_cons_succ]
    refine wpAnyH_ready (rs := [7]) (by kernel_rfl) (by simp) ?_
    refine (AllReadyH.cons rfl (fun K hK => ?_) AllReadyH.nil)
    have HKK := Lib.hid hK
    clear hK
    have B2 : Hid (Below w.heap.size w (World.alloc w7 (.cells #[.int .u8 (48 - x)] 5))) := Lib.hid (B1.out.trans ((below_alloc _).mono B1.out.size))
    have kb : Blk (World.alloc w7 (.cells #[.int .u8 (48 - x)] 5)) (World.heap w7).size 5 #[.int .u8 (48 - x)] := Blk.new _ _ _
    have KB2 := Lib.hid kb
    clear kb
    go_simp
    refine HKK.out _ _ trivial (fun hHeld => ?_)
    clear HKK K
    try simp only [Act.put, List.getElem_toArray, List.getElem_cons_zero, List.getElem_cons_succ, List.setIfInBounds_toArray, List.set_cons_zero, List.set_cons_succ]
    refine wpAnyH_ready (rs := [8]) (by kernel_rfl) (by simp) ?_
    refine (AllReadyH.cons rfl (fun K hK => ?_) AllReadyH.nil)
    have HKK := Lib.hid hK
    clear hK
    have hq : (convert 29 9 (.slice (some ⟨(World.heap w7).size, 0, none⟩) 1 1)).run Tryd.prog (World.alloc w7 (.cells #[.int .u8 (48 - x)] 5)) = .ok (.string (strB [C])) (World.alloc w7 (.cells #[.int .u8 (48 - x)] 5)) := one_byte KB2.out HC.out
    try simp only [World.size_alloc, World.size_drew] at hq
    go_simp
    clear hq
    refine HKK.out _ _ trivial (fun hHeld => ?_)
    clear HKK K
    try simp only [Act.put, List.getElem_toArray, List.getElem_cons_zero, List.getElem_cons_succ, List.setIfInBounds_toArray, List.set_cons_zero, List.set_cons_succ]
    refine wpAnyH_take (i := 9) (v := ?_) rfl (by kernel_rfl) (by kernel_rfl) (by kernel_rfl) (fun _ _ _ h => h) (Or.inl ⟨by rfl, ?_⟩) (by assumption) ?_
    rotate_left
    · intro w' hSw
      (try dsimp only at hSw)
      go_simp
      try with_reducible rfl
    try simp only [Act.put, List.getElem_toArray, List.getElem_cons_zero, List.getElem_cons_succ, List.setIfInBounds_toArray, List.set_cons_zero, List.set_cons_succ]
    refine wpAnyH_take (i := 10) (v := ?_) rfl (by kernel_rfl) (by kernel_rfl) (by kernel_rfl) (fun _ _ _ h => h) (Or.inl ⟨by rfl, ?_⟩) (by assumption) ?_
    rotate_left
    · intro w' hSw
      (try dsimp only at hSw)
      go_simp
      try with_reducible rfl
    try simp only [Act.put, List.getElem_toArray, List.getElem_cons_zero, List.getElem_cons_succ, List.setIfInBounds_toArray, List.set_cons_zero, List.set_cons_succ]
    refine wpAnyH_done (by kernel_rfl) ?_ _
    clear hHeld
    go_wp2
    go_ret
    exact ⟨by rw [HR.out]; rfl, B2.out⟩
  · have HKK := Lib.hid hK
    clear hK
    have B1 : Hid (Below w.heap.size w (World.drew (World.alloc w (.cells #[.int .u8 (48 - x)] 5)))) := Lib.hid (W.below_drewN (W.below_alloc _) 1)
    have kb : Blk (World.drew (World.alloc w (.cells #[.int .u8 (48 - x)] 5))) (World.heap w).size 5 #[.int .u8 (48 - x)] := (Blk.new w _ _).drew
    have KB1 := Lib.hid kb
    clear kb
    go_simp
    refine HKK.out _ _ trivial (fun hHeld => ?_)
    clear HKK K
    try simp only [Act.put, List.getElem_toArray, List.getElem_cons_zero, List.getElem_cons_succ, List.setIfInBounds_toArray, List.set_cons_zero, List.set_cons_succ]
    refine wpAnyH_ready (rs := [2, 8]) (by kernel_rfl) (by simp) ?_
    refine (AllReadyH.cons rfl (fun K hK => ?_) (AllReadyH.cons rfl (fun K hK => ?_) AllReadyH.nil))
    · have HKK := Lib.hid hK
      clear hK
      go_simp
      refine (hrec _).mono ?_
      rintro e w8 ⟨rfl, hb1⟩
      try dsimp only
      have B2 : Hid (Below w.heap.size w w8) := Lib.hid (B1.out.trans (hb1.mono B1.out.size))
      have KB2 := Lib.hid (KB1.out.below hb1)
      clear hb1
      refine HKK.out _ _ trivial (fun hHeld => ?_)
      clear HKK K
      try simp only [Act.put, List.getElem_toArray, List.getElem_cons_zero, List.getElem_cons_succ, List.setIfInBounds_toArray, List.set_cons_zero, List.set_cons_succ]
      refine wpAnyH_ready (rs := [8]) (by kernel_rfl) (by simp) ?_
      refine (AllReadyH.cons rfl (fun K hK => ?_) AllReadyH.nil)
      have HKK := Lib.hid hK
      clear hK
      have hq : (convert 29 9 (.slice (some ⟨(World.heap w).size, 0, none⟩) 1 1)).run Tryd.prog w8 = .ok (.string (strB [C])) w8 := one_byte KB2.out HC.out
      try simp only [World.size_alloc, World.size_drew] at hq
      go_simp
      clear hq
      refine HKK.out _ _ trivial (fun hHeld => ?_)
      clear HKK K
      try simp only [Act.put, List.getElem_toArray, List.getElem_cons_zero, List.getElem_cons_succ, List.setIfInBounds_toArray, List.set_cons_zero, List.set_cons_succ]
      refine wpAnyH_take (i := 9) (v := ?_) rfl (by kernel_rfl) (by kernel_rfl) (by kernel_rfl) (fun _ _ _ h => h) (Or.inl ⟨by rfl, ?_⟩) (by assumption) ?_
      rotate_left
      · intro w' hSw
        (try dsimp only at hSw)
        go_simp
        try with_reducible rfl
      try simp only [Act.put, List.getElem_toArray, List.getElem_cons_zero, List.getElem_cons_succ, List.setIfInBounds_toArray, List.set_cons_zero, List.set_cons_succ]
      refine wpAnyH_take (i := 10) (v := ?_) rfl (by kernel_rfl) (by kernel_rfl) (by kernel_rfl) (fun _ _ _ h => h) (Or.inl ⟨by rfl, ?_⟩) (by assumption) ?_
      rotate_left
      · intro w' hSw
        (try dsimp only at hSw)
        go_simp
        try with_reducible rfl
      try simp only [Act.put, List.getElem_toArray, List.getElem_cons_zero, List.getElem_cons_succ, List.setIfInBounds_toArray, List.set_cons_zero, List.set_cons_succ]
      refine wpAnyH_done (by kernel_rfl) ?_ _
      clear hHeld
      go_wp2
      go_ret
      exact ⟨by rw [HR.out]; rfl, B2.out⟩
    · have HKK := Lib.hid hK
      clear hK
      have hq : (convert 29 9 (.slice (some ⟨(World.heap w).size, 0, none⟩) 1 1)).run Tryd.prog (World.drew (World.alloc w (.cells #[.int .u8 (48 - x)] 5))) = .ok (.string (strB [C])) (World.drew (World.alloc w (.cells #[.int .u8 (48 - x)] 5))) := one_byte KB1.out HC.out
      try simp only [World.size_alloc, World.size_drew] at hq
      go_simp
      clear hq
      refine HKK.out _ _ trivial (fun hHeld => ?_)
      clear HKK K
      try simp only [Act.put, List.getElem_toArray, List.getElem_cons_zero, List.getElem_cons_succ, List.setIfInBounds_toArray, List.set_cons_zero, List.set_cons_succ]
      refine wpAnyH_ready (rs := [2]) (by kernel_rfl) (by simp) ?_
      refine (AllReadyH.cons rfl (fun K hK => ?_) AllReadyH.nil)
      have HKK := Lib.hid hK
      clear hK
      go_simp
      refine (hrec _).mono ?_
      rintro e w8 ⟨rfl, hb1⟩
      try dsimp only
      have B2 : Hid (Below w.heap.size w w8) := Lib.hid (B1.out.trans (hb1.mono B1.out.size))
      have KB2 := Lib.hid (KB1.out.below hb1)
      clear hb1
      refine HKK.out _ _ trivial (fun hHeld => ?_)
      clear HKK K
      try simp only [Act.put, List.getElem_toArray, List.getElem_cons_zero, List.getElem_cons_succ, List.setIfInBounds_toArray, List.set_cons_zero, List.set_cons_succ]
      refine wpAnyH_take (i := 9) (v := ?_) rfl (by kernel_rfl) (by kernel_rfl) (by kernel_rfl) (fun _ _ _ h => h) (Or.inl ⟨by rfl, ?_⟩) (by assumption) ?_
      rotate_left
      · intro w' hSw
        (try dsimp only at hSw)
        go_simp
        try with_reducible rfl
      try simp only [Act.put, List.getElem_toArray, List.getElem_cons_zero, List.getElem_cons_succ, List.setIfInBounds_toArray, List.set_cons_zero, List.set_cons_succ]
      refine wpAnyH_take (i := 10) (v := ?_) rfl (by kernel_rfl) (by kernel_rfl) (by kernel_rfl) (fun _ _ _ h => h) (Or.inl ⟨by rfl, ?_⟩) (by assumption) ?_
      rotate_left
      · intro w' hSw
        (try dsimp only at hSw)
        go_simp
        try with_reducible rfl
      try simp only [Act.put, List.getElem_toArray, List.getElem_cons_zero, List.getElem_cons_succ, List.setIfInBounds_toArray, List.set_cons_zero, List.set_cons_succ]
      refine wpAnyH_done (by kernel_rfl) ?_ _
      clear hHeld
      go_wp2
      go_ret
      exact ⟨by rw [HR.out]; rfl, B2.out⟩
theorem Decimal_neg : ∀ (u : Nat) (z : Int), z = -(u : Int) → ∀ w : World, 0 < u → u ≤ 1099511627776 → Calls Tryd.prog 31 #[.int .i64 z] w fun e w' => e = .returned (.string (strB (45 :: Go.Lib.decDigits u))) ∧ Below w.heap.size w w' := by
  intro u
  induction u using Nat.strongRecOn with
  | _ u ih =>
    intro z hz w h0 hu
    by_cases h : u < 10
    · exact neg_0 u z hz w h0 h
    · exact neg_pos u z _ hz rfl w h hu fun W => ih (u / 10) (by omega) _ rfl W (by omega) (by omega)
theorem Decimal_any (n : Int) (w : World) (h : -1099511627776 ≤ n) (h' : n ≤ 1099511627776) : Calls Tryd.prog 31 #[.int .i64 n] w fun e w' => e = .returned (.string (strB (Go.Lib.itoa n))) ∧ Below w.heap.size w w' := by
  by_cases hn : n < 0
  · obtain ⟨u, rfl⟩ : ∃ u : Nat, n = -(u : Int) := ⟨n.natAbs, by omega⟩
    rw [itoa_neg (by omega)]
    exact Decimal_neg u _ rfl w (by omega) (by omega)
  · obtain ⟨u, rfl⟩ : ∃ u : Nat, n = (u : Int) := ⟨n.toNat, by omega⟩
    rw [itoa_nat]
    exact Decimal_nat u w (by omega)
end Go.Proofs.YtckjnlonijodcaaDoor.Tx
