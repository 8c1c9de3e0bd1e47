/-
  The reference's BlockStep: edges. Conditions: both lists read.
-/
import Derived.Test.YthgjjclmepfbpaaDoorBlkR4
namespace Go.Proofs.YthgjjclmepfbpaaDoor.Blk
open Go.RowKit Go.Proofs.YthgjjclmepfbpaaDoor.W Go.Proofs.YthgjjclmepfbpaaDoor.Ints Go.Proofs.YthgjjclmepfbpaaDoor.Cell Go.Proofs.YthgjjclmepfbpaaDoor.Num

set_option maxRecDepth 100000 in
set_option maxHeartbeats 12800000 in
theorem bs_rtrig (A : Option Addr) (n c : Nat) (l : List Int) (A' : Option Addr) (n' c' : Nat) (l' : List Int) (now : Int) (w : World) (hr : Rd w 1 A n (ints l)) (hr' : Rd w 1 A' n' (ints l')) (a x now' : Int) (hs : fitF l (pinsL b_rtrig.st) = [a]) (hi : fitF l' (pinsL b_rtrig.ins) = [x]) (hnow : wrapF 5 now = now') (_hnn : 0 ≤ now' ∧ now' ≤ 4294967295) (ha : a = 0 ∨ a = 1) (hx : x = 0 ∨ x = 1) :
    Calls Tryd.prog 13 #[.string ⟨#[114, 95, 116, 114, 105, 103]⟩, .slice A n c, .slice A' n' c', .int .i64 now] w fun e w' => ∃ g2 g3, e = .returned (.tuple #[.slice (some ⟨g2, 0, none⟩) 1 1, .slice (some ⟨g3, 0, none⟩) 1 1]) ∧ ∃ Os, Mem w w' [] (⟨3, 1, some ⟨g3, 0, none⟩, 1, 1, ints [riseF a x]⟩ :: ⟨3, 1, some ⟨g2, 0, none⟩, 1, 1, ints [x]⟩ :: Os) := by
  have HSH : Hid (Calls Tryd.prog 8 #[.string ⟨#[114, 95, 116, 114, 105, 103]⟩] w _) := ref_reads (b := b_rtrig) (by simp [bts]) 1 1 (by rw [rtrig_ins]; rfl) (by rw [rtrig_st]; rfl) w
  have HR := Lib.hid hr
  have HR' := Lib.hid hr'
  have HSI := Lib.hid (And.intro hs hi)
  have q0 : ((⟨#[114, 95, 116, 114, 105, 103]⟩ : ByteArray).toList == [116, 111, 110]) = false := str_ne (by decide)
  have q1 : ((⟨#[114, 95, 116, 114, 105, 103]⟩ : ByteArray).toList == [116, 111, 102]) = false := str_ne (by decide)
  have q2 : ((⟨#[114, 95, 116, 114, 105, 103]⟩ : ByteArray).toList == [116, 112]) = false := str_ne (by decide)
  have q3 : ((⟨#[114, 95, 116, 114, 105, 103]⟩ : ByteArray).toList == [99, 116, 117]) = false := str_ne (by decide)
  have q4 : ((⟨#[114, 95, 116, 114, 105, 103]⟩ : ByteArray).toList == [99, 116, 100]) = false := str_ne (by decide)
  have q5 : ((⟨#[114, 95, 116, 114, 105, 103]⟩ : ByteArray).toList == [99, 116, 117, 100]) = false := str_ne (by decide)
  have q6 : ((⟨#[114, 95, 116, 114, 105, 103]⟩ : ByteArray).toList == [114, 95, 116, 114, 105, 103]) = true := str_eq rfl
  have q7 : ((⟨#[114, 95, 116, 114, 105, 103]⟩ : ByteArray).toList == [102, 95, 116, 114, 105, 103]) = false := str_ne (by decide)
  have q8 : ((⟨#[114, 95, 116, 114, 105, 103]⟩ : ByteArray).toList == [115, 114]) = false := str_ne (by decide)
  have q9 : ((⟨#[114, 95, 116, 114, 105, 103]⟩ : ByteArray).toList == [114, 115]) = false := str_ne (by decide)
  have q10 : ((⟨#[114, 95, 116, 114, 105, 103]⟩ : ByteArray).toList == [114, 97, 109, 112]) = false := str_ne (by decide)
  have q11 : ((⟨#[114, 95, 116, 114, 105, 103]⟩ : ByteArray).toList == [104, 121, 115, 116]) = false := str_ne (by decide)
  clear hr hr' hs hi
  go_enter Tryd.func13, Tryd.ntmps13
  go_wp2_with fail
  refine HSH.out.mono ?_
  rintro e w1 ⟨g1, gx, g3, n2, rfl, hp1, hp3, hm⟩
  dsimp only
  have HP := Lib.hid (And.intro hp1 hp3)
  have M := Lib.hid hm
  clear hp1 hp3 hm HSH
  have c0 := (hm2 M.out g1 gx g3 1 n2 1).1
  have c2 := (hm2 M.out g1 gx g3 1 n2 1).2
  have M1 := Lib.hid (M.out.alloc 24 #[.slice (some ⟨g1, 0, none⟩) 1 1, .slice (some ⟨gx, 0, none⟩) n2 n2, .slice (some ⟨g3, 0, none⟩) 1 1])
  have HP1 := Lib.hid (And.intro (HP.out.1.alloc (.cells #[.slice (some ⟨g1, 0, none⟩) 1 1, .slice (some ⟨gx, 0, none⟩) n2 n2, .slice (some ⟨g3, 0, none⟩) 1 1] 24)) (HP.out.2.alloc (.cells #[.slice (some ⟨g1, 0, none⟩) 1 1, .slice (some ⟨gx, 0, none⟩) n2 n2, .slice (some ⟨g3, 0, none⟩) 1 1] 24)))
  clear M HP
  go_upto_region 4 with fail
  generalize World.alloc _ _ = w2 at M1 HP1 c0 c2 ⊢
  generalize w1.heap.size = gb at M1 c0 c2 ⊢
  go_wp2_with fail
  refine (taken_any A n c l _ 1 _ (pinsL b_rtrig.st) w2 (HR.out.below M1.out.bel) HP1.out.2 (by decide)).mono ?_
  rintro e w3 ⟨gs, rfl, ho, hb⟩
  dsimp only
  have M3 := Lib.hid (M1.out.made hb ho)
  have HP3 := Lib.hid (HP1.out.1.below hb)
  have e0 : w3.cell? ⟨gb, 0, none⟩ = some (.slice (some ⟨g1, 0, none⟩) 1 1) := (hb.cell (lt_of_cell c0)).trans c0
  clear M1 HP1 c0 c2 ho hb
  go_wp2_with fail
  refine (taken_any A' n' c' l' _ 1 _ (pinsL b_rtrig.ins) w3 (HR'.out.below M3.out.bel) HP3.out (by decide)).mono ?_
  rintro e w4 ⟨gi, rfl, ho, hb⟩
  dsimp only
  have M4 := Lib.hid (M3.out.made hb ho)
  clear M3 HP3 e0 ho hb
  go_wp2_with fail
  refine (WrapR_any 5 now w4).mono ?_
  rintro e w5 ⟨rfl, rfl⟩
  dsimp only
  rw [hnow]
  rw [HSI.out.1, HSI.out.2] at M4
  have M5 := Lib.hid (M4.out.delK 0)
  have HS : Hid (Rd w4 1 (some ⟨gs, 0, none⟩) 1 (ints [a])) := M5.out.rdO 1 rfl
  have HI : Hid (Rd w4 1 (some ⟨gi, 0, none⟩) 1 (ints [x])) := M5.out.rdO 0 rfl
  clear M4 HSI HR HR' hnow
  have s0 : w4.cell? ⟨gs, 0, none⟩ = some (.int .i64 a) := rd_cells HS.out (by decide) 0 _ rfl
  have i0 : w4.cell? ⟨gi, 0, none⟩ = some (.int .i64 x) := rd_cells HI.out (by decide) 0 _ rfl
  have hlt1 := lt_of_cell i0
  have hlt2 := lt_of_cell s0
  clear HS HI
  go_upto_region 17 with fail
  rcases ha with rfl | rfl <;> rcases hx with rfl | rfl
  · refine wp_region_held_drew (S := fun w' => w'.cell? ⟨gi, 0, none⟩ = some (.int .i64 0)) (by kernel_rfl) ?_ (fun hHeld => ?_)
    · exact i0
    refine wpAnyH_take (i := 0) (v := ?_) rfl (by kernel_rfl) (by kernel_rfl) (by kernel_rfl) (fun _ _ _ h => h) (Or.inl ⟨by rfl, ?_⟩) (by assumption) ?_
    rotate_left
    · intro w' hSw
      (try dsimp only at hSw)
      go_simp
      try with_reducible rfl
    try simp only [Act.put, List.getElem_toArray, List.getElem_cons_zero, List.setIfInBounds_toArray, List.set_cons_zero, List.set_cons_succ]
    refine wpAnyH_take (i := 1) (v := ?_) rfl (by kernel_rfl) (by kernel_rfl) (by kernel_rfl) (fun _ _ _ h => h) (Or.inl ⟨by rfl, ?_⟩) (by assumption) ?_
    rotate_left
    · intro w' hSw
      (try dsimp only at hSw)
      go_simp
      try with_reducible rfl
    try simp only [Act.put, List.getElem_toArray, List.getElem_cons_zero, List.getElem_cons_succ, List.setIfInBounds_toArray, List.set_cons_zero, List.set_cons_succ]
    refine wpAnyH_take (i := 2) (v := ?_) rfl (by kernel_rfl) (by kernel_rfl) (by kernel_rfl) (fun _ _ _ h => h) (Or.inl ⟨by rfl, ?_⟩) (by assumption) ?_
    rotate_left
    · intro w' hSw
      (try dsimp only at hSw)
      go_simp
      try with_reducible rfl
    try simp only [Act.put, List.getElem_toArray, List.getElem_cons_zero, List.getElem_cons_succ, List.setIfInBounds_toArray, List.set_cons_zero, List.set_cons_succ]
    refine wpAnyH_take (i := 4) (v := ?_) rfl (by kernel_rfl) (by kernel_rfl) (by kernel_rfl) (fun _ _ _ h => h) (Or.inl ⟨by rfl, ?_⟩) (by assumption) ?_
    rotate_left
    · intro w' hSw
      (try dsimp only at hSw)
      go_simp
      try with_reducible rfl
    try simp only [Act.put, List.getElem_toArray, List.getElem_cons_zero, List.getElem_cons_succ, List.setIfInBounds_toArray, List.set_cons_zero, List.set_cons_succ]
    refine wpAnyH_take (i := 5) (v := ?_) rfl (by kernel_rfl) (by kernel_rfl) (by kernel_rfl) (fun _ _ _ h => h) (Or.inl ⟨by rfl, ?_⟩) (by assumption) ?_
    rotate_left
    · intro w' hSw
      (try dsimp only at hSw)
      go_simp
      try with_reducible rfl
    try simp only [Act.put, List.getElem_toArray, List.getElem_cons_zero, List.getElem_cons_succ, List.setIfInBounds_toArray, List.set_cons_zero, List.set_cons_succ]
    refine wpAnyH_take (i := 6) (v := ?_) rfl (by kernel_rfl) (by kernel_rfl) (by kernel_rfl) (fun _ _ _ h => h) (Or.inl ⟨by rfl, ?_⟩) (by assumption) ?_
    rotate_left
    · intro w' hSw
      (try dsimp only at hSw)
      go_simp
      try with_reducible rfl
    try simp only [Act.put, List.getElem_toArray, List.getElem_cons_zero, List.getElem_cons_succ, List.setIfInBounds_toArray, List.set_cons_zero, List.set_cons_succ]
    refine wpAnyH_take (i := 7) (v := ?_) rfl (by kernel_rfl) (by kernel_rfl) (by kernel_rfl) (fun _ _ _ h => h) (Or.inl ⟨by rfl, ?_⟩) (by assumption) ?_
    rotate_left
    · intro w' hSw
      (try dsimp only at hSw)
      go_simp
      try with_reducible rfl
    try simp only [Act.put, List.getElem_toArray, List.getElem_cons_zero, List.getElem_cons_succ, List.setIfInBounds_toArray, List.set_cons_zero, List.set_cons_succ]
    refine wpAnyH_take (i := 8) (v := ?_) rfl (by kernel_rfl) (by kernel_rfl) (by kernel_rfl) (fun _ _ _ h => h) (Or.inl ⟨by rfl, ?_⟩) (by assumption) ?_
    rotate_left
    · intro w' hSw
      (try dsimp only at hSw)
      go_simp
      try with_reducible rfl
    try simp only [Act.put, List.getElem_toArray, List.getElem_cons_zero, List.getElem_cons_succ, List.setIfInBounds_toArray, List.set_cons_zero, List.set_cons_succ]
    refine wpAnyH_take (i := 9) (v := undef) rfl (by kernel_rfl) (by kernel_rfl) (by kernel_rfl) (fun _ _ _ h => h) (Or.inr ⟨by rfl, rfl⟩) (by assumption) ?_
    try simp only [Act.put, List.getElem_toArray, List.getElem_cons_zero, List.getElem_cons_succ, List.setIfInBounds_toArray, List.set_cons_zero, List.set_cons_succ]
    refine wpAnyH_take (i := 10) (v := undef) rfl (by kernel_rfl) (by kernel_rfl) (by kernel_rfl) (fun _ _ _ h => h) (Or.inr ⟨by rfl, rfl⟩) (by assumption) ?_
    try simp only [Act.put, List.getElem_toArray, List.getElem_cons_zero, List.getElem_cons_succ, List.setIfInBounds_toArray, List.set_cons_zero, List.set_cons_succ]
    refine wpAnyH_take (i := 11) (v := undef) rfl (by kernel_rfl) (by kernel_rfl) (by kernel_rfl) (fun _ _ _ h => h) (Or.inr ⟨by rfl, rfl⟩) (by assumption) ?_
    try simp only [Act.put, List.getElem_toArray, List.getElem_cons_zero, List.getElem_cons_succ, List.setIfInBounds_toArray, List.set_cons_zero, List.set_cons_succ]
    refine wpAnyH_take (i := 12) (v := undef) rfl (by kernel_rfl) (by kernel_rfl) (by kernel_rfl) (fun _ _ _ h => h) (Or.inr ⟨by rfl, rfl⟩) (by assumption) ?_
    try simp only [Act.put, List.getElem_toArray, List.getElem_cons_zero, List.getElem_cons_succ, List.setIfInBounds_toArray, List.set_cons_zero, List.set_cons_succ]
    refine wpAnyH_take (i := 13) (v := ?_) rfl (by kernel_rfl) (by kernel_rfl) (by kernel_rfl) (fun _ _ _ h => h) (Or.inl ⟨by rfl, ?_⟩) (by assumption) ?_
    rotate_left
    · intro w' hSw
      (try dsimp only at hSw)
      go_simp
      try with_reducible rfl
    try simp only [Act.put, List.getElem_toArray, List.getElem_cons_zero, List.getElem_cons_succ, List.setIfInBounds_toArray, List.set_cons_zero, List.set_cons_succ]
    refine wpAnyH_ready (rs := [3, 14]) (by kernel_rfl) (by simp) ?_
    refine AllReadyH.cons rfl (fun K hK => ?_) (AllReadyH.cons rfl (fun K hK => ?_) AllReadyH.nil)
    · have HKK := Lib.hid hK
      clear hK
      go_simp
      refine HKK.out.out _ _ ?_ (fun hHeld => ?_)
      · first | with_reducible assumption | ((try dsimp only); go_simp)
      clear HKK K
      try simp only [Act.put, List.getElem_toArray, List.getElem_cons_zero, List.getElem_cons_succ, List.setIfInBounds_toArray, List.set_cons_zero, List.set_cons_succ]
      refine wpAnyH_ready (rs := [14]) (by kernel_rfl) (by simp) ?_
      refine AllReadyH.cons rfl (fun K hK => ?_) AllReadyH.nil
      have HKK := Lib.hid hK
      clear hK
      go_simp
      refine (yes_any _ _).mono ?_
      rintro e wy ⟨rfl, rfl⟩
      try dsimp only
      refine HKK.out.out _ _ ?_ (fun hHeld => ?_)
      · first | with_reducible assumption | ((try dsimp only); go_simp)
      clear HKK K
      try simp only [Act.put, List.getElem_toArray, List.getElem_cons_zero, List.getElem_cons_succ, List.setIfInBounds_toArray, List.set_cons_zero, List.set_cons_succ]
      refine wpAnyH_take (i := 16) (v := ?_) rfl (by kernel_rfl) (by kernel_rfl) (by kernel_rfl) (fun _ _ _ h => h) (Or.inl ⟨by rfl, ?_⟩) (by assumption) ?_
      rotate_left
      · intro w' hSw
        (try dsimp only at hSw)
        go_simp
        try with_reducible rfl
      try simp only [Act.put, List.getElem_toArray, List.getElem_cons_zero, List.getElem_cons_succ, List.setIfInBounds_toArray, List.set_cons_zero, List.set_cons_succ]
      refine wpAnyH_ready (rs := [15]) (by kernel_rfl) (by simp) ?_
      refine AllReadyH.cons rfl (fun K hK => ?_) AllReadyH.nil
      have HKK := Lib.hid hK
      clear hK
      go_simp
      refine HKK.out.out _ _ ?_ (fun hHeld => ?_)
      · first | with_reducible assumption | ((try dsimp only); go_simp)
      clear HKK K
      try simp only [Act.put, List.getElem_toArray, List.getElem_cons_zero, List.getElem_cons_succ, List.setIfInBounds_toArray, List.set_cons_zero, List.set_cons_succ]
      refine wpAnyH_take (i := 17) (v := ?_) rfl (by kernel_rfl) (by kernel_rfl) (by kernel_rfl) (fun _ _ _ h => h) (Or.inl ⟨by rfl, ?_⟩) (by assumption) ?_
      rotate_left
      · intro w' hSw
        (try dsimp only at hSw)
        go_simp
        try with_reducible rfl
      try simp only [Act.put, List.getElem_toArray, List.getElem_cons_zero, List.getElem_cons_succ, List.setIfInBounds_toArray, List.set_cons_zero, List.set_cons_succ]
      refine wpAnyH_done (by kernel_rfl) ?_ _
      go_wp2
      go_ret2
      skip
      first
        | exact ⟨_, _, rfl, _, (two_rows M5.out [0] [yesI false] 1 1 rfl rfl rfl rfl (by decide) (by decide)).drew⟩
        | exact ⟨_, _, rfl, _, (two_rows' M5.out [0] [yesI false] 1 1 rfl rfl rfl rfl (by decide) (by decide)).drew⟩
    · have HKK := Lib.hid hK
      clear hK
      go_simp
      refine (yes_any _ _).mono ?_
      rintro e wy ⟨rfl, rfl⟩
      try dsimp only
      refine HKK.out.out _ _ ?_ (fun hHeld => ?_)
      · first | with_reducible assumption | ((try dsimp only); go_simp)
      clear HKK K
      try simp only [Act.put, List.getElem_toArray, List.getElem_cons_zero, List.getElem_cons_succ, List.setIfInBounds_toArray, List.set_cons_zero, List.set_cons_succ]
      refine wpAnyH_ready (rs := [3, 15]) (by kernel_rfl) (by simp) ?_
      refine AllReadyH.cons rfl (fun K hK => ?_) (AllReadyH.cons rfl (fun K hK => ?_) AllReadyH.nil)
      · have HKK := Lib.hid hK
        clear hK
        go_simp
        refine HKK.out.out _ _ ?_ (fun hHeld => ?_)
        · first | with_reducible assumption | ((try dsimp only); go_simp)
        clear HKK K
        try simp only [Act.put, List.getElem_toArray, List.getElem_cons_zero, List.getElem_cons_succ, List.setIfInBounds_toArray, List.set_cons_zero, List.set_cons_succ]
        refine wpAnyH_take (i := 16) (v := ?_) rfl (by kernel_rfl) (by kernel_rfl) (by kernel_rfl) (fun _ _ _ h => h) (Or.inl ⟨by rfl, ?_⟩) (by assumption) ?_
        rotate_left
        · intro w' hSw
          (try dsimp only at hSw)
          go_simp
          try with_reducible rfl
        try simp only [Act.put, List.getElem_toArray, List.getElem_cons_zero, List.getElem_cons_succ, List.setIfInBounds_toArray, List.set_cons_zero, List.set_cons_succ]
        refine wpAnyH_ready (rs := [15]) (by kernel_rfl) (by simp) ?_
        refine AllReadyH.cons rfl (fun K hK => ?_) AllReadyH.nil
        have HKK := Lib.hid hK
        clear hK
        go_simp
        refine HKK.out.out _ _ ?_ (fun hHeld => ?_)
        · first | with_reducible assumption | ((try dsimp only); go_simp)
        clear HKK K
        try simp only [Act.put, List.getElem_toArray, List.getElem_cons_zero, List.getElem_cons_succ, List.setIfInBounds_toArray, List.set_cons_zero, List.set_cons_succ]
        refine wpAnyH_take (i := 17) (v := ?_) rfl (by kernel_rfl) (by kernel_rfl) (by kernel_rfl) (fun _ _ _ h => h) (Or.inl ⟨by rfl, ?_⟩) (by assumption) ?_
        rotate_left
        · intro w' hSw
          (try dsimp only at hSw)
          go_simp
          try with_reducible rfl
        try simp only [Act.put, List.getElem_toArray, List.getElem_cons_zero, List.getElem_cons_succ, List.setIfInBounds_toArray, List.set_cons_zero, List.set_cons_succ]
        refine wpAnyH_done (by kernel_rfl) ?_ _
        go_wp2
        go_ret2
        skip
        first
          | exact ⟨_, _, rfl, _, (two_rows M5.out [0] [yesI false] 1 1 rfl rfl rfl rfl (by decide) (by decide)).drew⟩
          | exact ⟨_, _, rfl, _, (two_rows' M5.out [0] [yesI false] 1 1 rfl rfl rfl rfl (by decide) (by decide)).drew⟩
      · have HKK := Lib.hid hK
        clear hK
        go_simp
        refine HKK.out.out _ _ ?_ (fun hHeld => ?_)
        · first | with_reducible assumption | ((try dsimp only); go_simp)
        clear HKK K
        try simp only [Act.put, List.getElem_toArray, List.getElem_cons_zero, List.getElem_cons_succ, List.setIfInBounds_toArray, List.set_cons_zero, List.set_cons_succ]
        refine wpAnyH_ready (rs := [3]) (by kernel_rfl) (by simp) ?_
        refine AllReadyH.cons rfl (fun K hK => ?_) AllReadyH.nil
        have HKK := Lib.hid hK
        clear hK
        go_simp
        refine HKK.out.out _ _ ?_ (fun hHeld => ?_)
        · first | with_reducible assumption | ((try dsimp only); go_simp)
        clear HKK K
        try simp only [Act.put, List.getElem_toArray, List.getElem_cons_zero, List.getElem_cons_succ, List.setIfInBounds_toArray, List.set_cons_zero, List.set_cons_succ]
        refine wpAnyH_take (i := 16) (v := ?_) rfl (by kernel_rfl) (by kernel_rfl) (by kernel_rfl) (fun _ _ _ h => h) (Or.inl ⟨by rfl, ?_⟩) (by assumption) ?_
        rotate_left
        · intro w' hSw
          (try dsimp only at hSw)
          go_simp
          try with_reducible rfl
        try simp only [Act.put, List.getElem_toArray, List.getElem_cons_zero, List.getElem_cons_succ, List.setIfInBounds_toArray, List.set_cons_zero, List.set_cons_succ]
        refine wpAnyH_take (i := 17) (v := ?_) rfl (by kernel_rfl) (by kernel_rfl) (by kernel_rfl) (fun _ _ _ h => h) (Or.inl ⟨by rfl, ?_⟩) (by assumption) ?_
        rotate_left
        · intro w' hSw
          (try dsimp only at hSw)
          go_simp
          try with_reducible rfl
        try simp only [Act.put, List.getElem_toArray, List.getElem_cons_zero, List.getElem_cons_succ, List.setIfInBounds_toArray, List.set_cons_zero, List.set_cons_succ]
        refine wpAnyH_done (by kernel_rfl) ?_ _
        go_wp2
        go_ret2
        skip
        first
          | exact ⟨_, _, rfl, _, (two_rows M5.out [0] [yesI false] 1 1 rfl rfl rfl rfl (by decide) (by decide)).drew⟩
          | exact ⟨_, _, rfl, _, (two_rows' M5.out [0] [yesI false] 1 1 rfl rfl rfl rfl (by decide) (by decide)).drew⟩
  · have dd : w4.drew.cell? ⟨gi, 0, none⟩ = some (.int .i64 1) ∧ w4.drew.cell? ⟨gs, 0, none⟩ = some (.int .i64 0) := ⟨i0, s0⟩
    go_region_held3 (fun w' => w'.cell? ⟨gi, 0, none⟩ = some (.int .i64 1) ∧ w'.cell? ⟨gs, 0, none⟩ = some (.int .i64 0)) (first | with_reducible assumption | (refine ⟨?_, ?_⟩ <;> go_simp))
      ((go_at_call 26
        refine (yes_any _ _).mono ?_
        rintro e wy ⟨rfl, rfl⟩
        dsimp only))
    all_goals go_wp2
    all_goals go_ret2
    all_goals first
      | exact ⟨_, _, rfl, _, (two_rows M5.out [1] [yesI true] 1 1 rfl rfl rfl rfl (by decide) (by decide)).drew⟩
      | exact ⟨_, _, rfl, _, (two_rows' M5.out [1] [yesI true] 1 1 rfl rfl rfl rfl (by decide) (by decide)).drew⟩
  · refine wp_region_held_drew (S := fun w' => w'.cell? ⟨gi, 0, none⟩ = some (.int .i64 0)) (by kernel_rfl) ?_ (fun hHeld => ?_)
    · exact i0
    refine wpAnyH_take (i := 0) (v := ?_) rfl (by kernel_rfl) (by kernel_rfl) (by kernel_rfl) (fun _ _ _ h => h) (Or.inl ⟨by rfl, ?_⟩) (by assumption) ?_
    rotate_left
    · intro w' hSw
      (try dsimp only at hSw)
      go_simp
      try with_reducible rfl
    try simp only [Act.put, List.getElem_toArray, List.getElem_cons_zero, List.setIfInBounds_toArray, List.set_cons_zero, List.set_cons_succ]
    refine wpAnyH_take (i := 1) (v := ?_) rfl (by kernel_rfl) (by kernel_rfl) (by kernel_rfl) (fun _ _ _ h => h) (Or.inl ⟨by rfl, ?_⟩) (by assumption) ?_
    rotate_left
    · intro w' hSw
      (try dsimp only at hSw)
      go_simp
      try with_reducible rfl
    try simp only [Act.put, List.getElem_toArray, List.getElem_cons_zero, List.getElem_cons_succ, List.setIfInBounds_toArray, List.set_cons_zero, List.set_cons_succ]
    refine wpAnyH_take (i := 2) (v := ?_) rfl (by kernel_rfl) (by kernel_rfl) (by kernel_rfl) (fun _ _ _ h => h) (Or.inl ⟨by rfl, ?_⟩) (by assumption) ?_
    rotate_left
    · intro w' hSw
      (try dsimp only at hSw)
      go_simp
      try with_reducible rfl
    try simp only [Act.put, List.getElem_toArray, List.getElem_cons_zero, List.getElem_cons_succ, List.setIfInBounds_toArray, List.set_cons_zero, List.set_cons_succ]
    refine wpAnyH_take (i := 4) (v := ?_) rfl (by kernel_rfl) (by kernel_rfl) (by kernel_rfl) (fun _ _ _ h => h) (Or.inl ⟨by rfl, ?_⟩) (by assumption) ?_
    rotate_left
    · intro w' hSw
      (try dsimp only at hSw)
      go_simp
      try with_reducible rfl
    try simp only [Act.put, List.getElem_toArray, List.getElem_cons_zero, List.getElem_cons_succ, List.setIfInBounds_toArray, List.set_cons_zero, List.set_cons_succ]
    refine wpAnyH_take (i := 5) (v := ?_) rfl (by kernel_rfl) (by kernel_rfl) (by kernel_rfl) (fun _ _ _ h => h) (Or.inl ⟨by rfl, ?_⟩) (by assumption) ?_
    rotate_left
    · intro w' hSw
      (try dsimp only at hSw)
      go_simp
      try with_reducible rfl
    try simp only [Act.put, List.getElem_toArray, List.getElem_cons_zero, List.getElem_cons_succ, List.setIfInBounds_toArray, List.set_cons_zero, List.set_cons_succ]
    refine wpAnyH_take (i := 6) (v := ?_) rfl (by kernel_rfl) (by kernel_rfl) (by kernel_rfl) (fun _ _ _ h => h) (Or.inl ⟨by rfl, ?_⟩) (by assumption) ?_
    rotate_left
    · intro w' hSw
      (try dsimp only at hSw)
      go_simp
      try with_reducible rfl
    try simp only [Act.put, List.getElem_toArray, List.getElem_cons_zero, List.getElem_cons_succ, List.setIfInBounds_toArray, List.set_cons_zero, List.set_cons_succ]
    refine wpAnyH_take (i := 7) (v := ?_) rfl (by kernel_rfl) (by kernel_rfl) (by kernel_rfl) (fun _ _ _ h => h) (Or.inl ⟨by rfl, ?_⟩) (by assumption) ?_
    rotate_left
    · intro w' hSw
      (try dsimp only at hSw)
      go_simp
      try with_reducible rfl
    try simp only [Act.put, List.getElem_toArray, List.getElem_cons_zero, List.getElem_cons_succ, List.setIfInBounds_toArray, List.set_cons_zero, List.set_cons_succ]
    refine wpAnyH_take (i := 8) (v := ?_) rfl (by kernel_rfl) (by kernel_rfl) (by kernel_rfl) (fun _ _ _ h => h) (Or.inl ⟨by rfl, ?_⟩) (by assumption) ?_
    rotate_left
    · intro w' hSw
      (try dsimp only at hSw)
      go_simp
      try with_reducible rfl
    try simp only [Act.put, List.getElem_toArray, List.getElem_cons_zero, List.getElem_cons_succ, List.setIfInBounds_toArray, List.set_cons_zero, List.set_cons_succ]
    refine wpAnyH_take (i := 9) (v := undef) rfl (by kernel_rfl) (by kernel_rfl) (by kernel_rfl) (fun _ _ _ h => h) (Or.inr ⟨by rfl, rfl⟩) (by assumption) ?_
    try simp only [Act.put, List.getElem_toArray, List.getElem_cons_zero, List.getElem_cons_succ, List.setIfInBounds_toArray, List.set_cons_zero, List.set_cons_succ]
    refine wpAnyH_take (i := 10) (v := undef) rfl (by kernel_rfl) (by kernel_rfl) (by kernel_rfl) (fun _ _ _ h => h) (Or.inr ⟨by rfl, rfl⟩) (by assumption) ?_
    try simp only [Act.put, List.getElem_toArray, List.getElem_cons_zero, List.getElem_cons_succ, List.setIfInBounds_toArray, List.set_cons_zero, List.set_cons_succ]
    refine wpAnyH_take (i := 11) (v := undef) rfl (by kernel_rfl) (by kernel_rfl) (by kernel_rfl) (fun _ _ _ h => h) (Or.inr ⟨by rfl, rfl⟩) (by assumption) ?_
    try simp only [Act.put, List.getElem_toArray, List.getElem_cons_zero, List.getElem_cons_succ, List.setIfInBounds_toArray, List.set_cons_zero, List.set_cons_succ]
    refine wpAnyH_take (i := 12) (v := undef) rfl (by kernel_rfl) (by kernel_rfl) (by kernel_rfl) (fun _ _ _ h => h) (Or.inr ⟨by rfl, rfl⟩) (by assumption) ?_
    try simp only [Act.put, List.getElem_toArray, List.getElem_cons_zero, List.getElem_cons_succ, List.setIfInBounds_toArray, List.set_cons_zero, List.set_cons_succ]
    refine wpAnyH_take (i := 13) (v := ?_) rfl (by kernel_rfl) (by kernel_rfl) (by kernel_rfl) (fun _ _ _ h => h) (Or.inl ⟨by rfl, ?_⟩) (by assumption) ?_
    rotate_left
    · intro w' hSw
      (try dsimp only at hSw)
      go_simp
      try with_reducible rfl
    try simp only [Act.put, List.getElem_toArray, List.getElem_cons_zero, List.getElem_cons_succ, List.setIfInBounds_toArray, List.set_cons_zero, List.set_cons_succ]
    refine wpAnyH_ready (rs := [3, 14]) (by kernel_rfl) (by simp) ?_
    refine AllReadyH.cons rfl (fun K hK => ?_) (AllReadyH.cons rfl (fun K hK => ?_) AllReadyH.nil)
    · have HKK := Lib.hid hK
      clear hK
      go_simp
      refine HKK.out.out _ _ ?_ (fun hHeld => ?_)
      · first | with_reducible assumption | ((try dsimp only); go_simp)
      clear HKK K
      try simp only [Act.put, List.getElem_toArray, List.getElem_cons_zero, List.getElem_cons_succ, List.setIfInBounds_toArray, List.set_cons_zero, List.set_cons_succ]
      refine wpAnyH_ready (rs := [14]) (by kernel_rfl) (by simp) ?_
      refine AllReadyH.cons rfl (fun K hK => ?_) AllReadyH.nil
      have HKK := Lib.hid hK
      clear hK
      go_simp
      refine (yes_any _ _).mono ?_
      rintro e wy ⟨rfl, rfl⟩
      try dsimp only
      refine HKK.out.out _ _ ?_ (fun hHeld => ?_)
      · first | with_reducible assumption | ((try dsimp only); go_simp)
      clear HKK K
      try simp only [Act.put, List.getElem_toArray, List.getElem_cons_zero, List.getElem_cons_succ, List.setIfInBounds_toArray, List.set_cons_zero, List.set_cons_succ]
      refine wpAnyH_take (i := 16) (v := ?_) rfl (by kernel_rfl) (by kernel_rfl) (by kernel_rfl) (fun _ _ _ h => h) (Or.inl ⟨by rfl, ?_⟩) (by assumption) ?_
      rotate_left
      · intro w' hSw
        (try dsimp only at hSw)
        go_simp
        try with_reducible rfl
      try simp only [Act.put, List.getElem_toArray, List.getElem_cons_zero, List.getElem_cons_succ, List.setIfInBounds_toArray, List.set_cons_zero, List.set_cons_succ]
      refine wpAnyH_ready (rs := [15]) (by kernel_rfl) (by simp) ?_
      refine AllReadyH.cons rfl (fun K hK => ?_) AllReadyH.nil
      have HKK := Lib.hid hK
      clear hK
      go_simp
      refine HKK.out.out _ _ ?_ (fun hHeld => ?_)
      · first | with_reducible assumption | ((try dsimp only); go_simp)
      clear HKK K
      try simp only [Act.put, List.getElem_toArray, List.getElem_cons_zero, List.getElem_cons_succ, List.setIfInBounds_toArray, List.set_cons_zero, List.set_cons_succ]
      refine wpAnyH_take (i := 17) (v := ?_) rfl (by kernel_rfl) (by kernel_rfl) (by kernel_rfl) (fun _ _ _ h => h) (Or.inl ⟨by rfl, ?_⟩) (by assumption) ?_
      rotate_left
      · intro w' hSw
        (try dsimp only at hSw)
        go_simp
        try with_reducible rfl
      try simp only [Act.put, List.getElem_toArray, List.getElem_cons_zero, List.getElem_cons_succ, List.setIfInBounds_toArray, List.set_cons_zero, List.set_cons_succ]
      refine wpAnyH_done (by kernel_rfl) ?_ _
      go_wp2
      go_ret2
      skip
      first
        | exact ⟨_, _, rfl, _, (two_rows M5.out [0] [yesI false] 1 1 rfl rfl rfl rfl (by decide) (by decide)).drew⟩
        | exact ⟨_, _, rfl, _, (two_rows' M5.out [0] [yesI false] 1 1 rfl rfl rfl rfl (by decide) (by decide)).drew⟩
    · have HKK := Lib.hid hK
      clear hK
      go_simp
      refine (yes_any _ _).mono ?_
      rintro e wy ⟨rfl, rfl⟩
      try dsimp only
      refine HKK.out.out _ _ ?_ (fun hHeld => ?_)
      · first | with_reducible assumption | ((try dsimp only); go_simp)
      clear HKK K
      try simp only [Act.put, List.getElem_toArray, List.getElem_cons_zero, List.getElem_cons_succ, List.setIfInBounds_toArray, List.set_cons_zero, List.set_cons_succ]
      refine wpAnyH_ready (rs := [3, 15]) (by kernel_rfl) (by simp) ?_
      refine AllReadyH.cons rfl (fun K hK => ?_) (AllReadyH.cons rfl (fun K hK => ?_) AllReadyH.nil)
      · have HKK := Lib.hid hK
        clear hK
        go_simp
        refine HKK.out.out _ _ ?_ (fun hHeld => ?_)
        · first | with_reducible assumption | ((try dsimp only); go_simp)
        clear HKK K
        try simp only [Act.put, List.getElem_toArray, List.getElem_cons_zero, List.getElem_cons_succ, List.setIfInBounds_toArray, List.set_cons_zero, List.set_cons_succ]
        refine wpAnyH_take (i := 16) (v := ?_) rfl (by kernel_rfl) (by kernel_rfl) (by kernel_rfl) (fun _ _ _ h => h) (Or.inl ⟨by rfl, ?_⟩) (by assumption) ?_
        rotate_left
        · intro w' hSw
          (try dsimp only at hSw)
          go_simp
          try with_reducible rfl
        try simp only [Act.put, List.getElem_toArray, List.getElem_cons_zero, List.getElem_cons_succ, List.setIfInBounds_toArray, List.set_cons_zero, List.set_cons_succ]
        refine wpAnyH_ready (rs := [15]) (by kernel_rfl) (by simp) ?_
        refine AllReadyH.cons rfl (fun K hK => ?_) AllReadyH.nil
        have HKK := Lib.hid hK
        clear hK
        go_simp
        refine HKK.out.out _ _ ?_ (fun hHeld => ?_)
        · first | with_reducible assumption | ((try dsimp only); go_simp)
        clear HKK K
        try simp only [Act.put, List.getElem_toArray, List.getElem_cons_zero, List.getElem_cons_succ, List.setIfInBounds_toArray, List.set_cons_zero, List.set_cons_succ]
        refine wpAnyH_take (i := 17) (v := ?_) rfl (by kernel_rfl) (by kernel_rfl) (by kernel_rfl) (fun _ _ _ h => h) (Or.inl ⟨by rfl, ?_⟩) (by assumption) ?_
        rotate_left
        · intro w' hSw
          (try dsimp only at hSw)
          go_simp
          try with_reducible rfl
        try simp only [Act.put, List.getElem_toArray, List.getElem_cons_zero, List.getElem_cons_succ, List.setIfInBounds_toArray, List.set_cons_zero, List.set_cons_succ]
        refine wpAnyH_done (by kernel_rfl) ?_ _
        go_wp2
        go_ret2
        skip
        first
          | exact ⟨_, _, rfl, _, (two_rows M5.out [0] [yesI false] 1 1 rfl rfl rfl rfl (by decide) (by decide)).drew⟩
          | exact ⟨_, _, rfl, _, (two_rows' M5.out [0] [yesI false] 1 1 rfl rfl rfl rfl (by decide) (by decide)).drew⟩
      · have HKK := Lib.hid hK
        clear hK
        go_simp
        refine HKK.out.out _ _ ?_ (fun hHeld => ?_)
        · first | with_reducible assumption | ((try dsimp only); go_simp)
        clear HKK K
        try simp only [Act.put, List.getElem_toArray, List.getElem_cons_zero, List.getElem_cons_succ, List.setIfInBounds_toArray, List.set_cons_zero, List.set_cons_succ]
        refine wpAnyH_ready (rs := [3]) (by kernel_rfl) (by simp) ?_
        refine AllReadyH.cons rfl (fun K hK => ?_) AllReadyH.nil
        have HKK := Lib.hid hK
        clear hK
        go_simp
        refine HKK.out.out _ _ ?_ (fun hHeld => ?_)
        · first | with_reducible assumption | ((try dsimp only); go_simp)
        clear HKK K
        try simp only [Act.put, List.getElem_toArray, List.getElem_cons_zero, List.getElem_cons_succ, List.setIfInBounds_toArray, List.set_cons_zero, List.set_cons_succ]
        refine wpAnyH_take (i := 16) (v := ?_) rfl (by kernel_rfl) (by kernel_rfl) (by kernel_rfl) (fun _ _ _ h => h) (Or.inl ⟨by rfl, ?_⟩) (by assumption) ?_
        rotate_left
        · intro w' hSw
          (try dsimp only at hSw)
          go_simp
          try with_reducible rfl
        try simp only [Act.put, List.getElem_toArray, List.getElem_cons_zero, List.getElem_cons_succ, List.setIfInBounds_toArray, List.set_cons_zero, List.set_cons_succ]
        refine wpAnyH_take (i := 17) (v := ?_) rfl (by kernel_rfl) (by kernel_rfl) (by kernel_rfl) (fun _ _ _ h => h) (Or.inl ⟨by rfl, ?_⟩) (by assumption) ?_
        rotate_left
        · intro w' hSw
          (try dsimp only at hSw)
          go_simp
          try with_reducible rfl
        try simp only [Act.put, List.getElem_toArray, List.getElem_cons_zero, List.getElem_cons_succ, List.setIfInBounds_toArray, List.set_cons_zero, List.set_cons_succ]
        refine wpAnyH_done (by kernel_rfl) ?_ _
        go_wp2
        go_ret2
        skip
        first
          | exact ⟨_, _, rfl, _, (two_rows M5.out [0] [yesI false] 1 1 rfl rfl rfl rfl (by decide) (by decide)).drew⟩
          | exact ⟨_, _, rfl, _, (two_rows' M5.out [0] [yesI false] 1 1 rfl rfl rfl rfl (by decide) (by decide)).drew⟩
  · have dd : w4.drew.cell? ⟨gi, 0, none⟩ = some (.int .i64 1) ∧ w4.drew.cell? ⟨gs, 0, none⟩ = some (.int .i64 1) := ⟨i0, s0⟩
    go_region_held3 (fun w' => w'.cell? ⟨gi, 0, none⟩ = some (.int .i64 1) ∧ w'.cell? ⟨gs, 0, none⟩ = some (.int .i64 1)) (first | with_reducible assumption | (refine ⟨?_, ?_⟩ <;> go_simp))
      ((go_at_call 26
        refine (yes_any _ _).mono ?_
        rintro e wy ⟨rfl, rfl⟩
        dsimp only))
    all_goals go_wp2
    all_goals go_ret2
    all_goals first
      | exact ⟨_, _, rfl, _, (two_rows M5.out [1] [yesI false] 1 1 rfl rfl rfl rfl (by decide) (by decide)).drew⟩
      | exact ⟨_, _, rfl, _, (two_rows' M5.out [1] [yesI false] 1 1 rfl rfl rfl rfl (by decide) (by decide)).drew⟩
set_option maxRecDepth 100000 in
set_option maxHeartbeats 12800000 in
theorem bs_ftrig (A : Option Addr) (n c : Nat) (l : List Int) (A' : Option Addr) (n' c' : Nat) (l' : List Int) (now : Int) (w : World) (hr : Rd w 1 A n (ints l)) (hr' : Rd w 1 A' n' (ints l')) (a x now' : Int) (hs : fitF l (pinsL b_ftrig.st) = [a]) (hi : fitF l' (pinsL b_ftrig.ins) = [x]) (hnow : wrapF 5 now = now') (_hnn : 0 ≤ now' ∧ now' ≤ 4294967295) (ha : a = 0 ∨ a = 1) (hx : x = 0 ∨ x = 1) :
    Calls Tryd.prog 13 #[.string ⟨#[102, 95, 116, 114, 105, 103]⟩, .slice A n c, .slice A' n' c', .int .i64 now] w fun e w' => ∃ g2 g3, e = .returned (.tuple #[.slice (some ⟨g2, 0, none⟩) 1 1, .slice (some ⟨g3, 0, none⟩) 1 1]) ∧ ∃ Os, Mem w w' [] (⟨3, 1, some ⟨g3, 0, none⟩, 1, 1, ints [fallF a x]⟩ :: ⟨3, 1, some ⟨g2, 0, none⟩, 1, 1, ints [x]⟩ :: Os) := by
  have HSH : Hid (Calls Tryd.prog 8 #[.string ⟨#[102, 95, 116, 114, 105, 103]⟩] w _) := ref_reads (b := b_ftrig) (by simp [bts]) 1 1 (by rw [ftrig_ins]; rfl) (by rw [ftrig_st]; rfl) w
  have HR := Lib.hid hr
  have HR' := Lib.hid hr'
  have HSI := Lib.hid (And.intro hs hi)
  have q0 : ((⟨#[102, 95, 116, 114, 105, 103]⟩ : ByteArray).toList == [116, 111, 110]) = false := str_ne (by decide)
  have q1 : ((⟨#[102, 95, 116, 114, 105, 103]⟩ : ByteArray).toList == [116, 111, 102]) = false := str_ne (by decide)
  have q2 : ((⟨#[102, 95, 116, 114, 105, 103]⟩ : ByteArray).toList == [116, 112]) = false := str_ne (by decide)
  have q3 : ((⟨#[102, 95, 116, 114, 105, 103]⟩ : ByteArray).toList == [99, 116, 117]) = false := str_ne (by decide)
  have q4 : ((⟨#[102, 95, 116, 114, 105, 103]⟩ : ByteArray).toList == [99, 116, 100]) = false := str_ne (by decide)
  have q5 : ((⟨#[102, 95, 116, 114, 105, 103]⟩ : ByteArray).toList == [99, 116, 117, 100]) = false := str_ne (by decide)
  have q6 : ((⟨#[102, 95, 116, 114, 105, 103]⟩ : ByteArray).toList == [114, 95, 116, 114, 105, 103]) = false := str_ne (by decide)
  have q7 : ((⟨#[102, 95, 116, 114, 105, 103]⟩ : ByteArray).toList == [102, 95, 116, 114, 105, 103]) = true := str_eq rfl
  have q8 : ((⟨#[102, 95, 116, 114, 105, 103]⟩ : ByteArray).toList == [115, 114]) = false := str_ne (by decide)
  have q9 : ((⟨#[102, 95, 116, 114, 105, 103]⟩ : ByteArray).toList == [114, 115]) = false := str_ne (by decide)
  have q10 : ((⟨#[102, 95, 116, 114, 105, 103]⟩ : ByteArray).toList == [114, 97, 109, 112]) = false := str_ne (by decide)
  have q11 : ((⟨#[102, 95, 116, 114, 105, 103]⟩ : ByteArray).toList == [104, 121, 115, 116]) = false := str_ne (by decide)
  clear hr hr' hs hi
  go_enter Tryd.func13, Tryd.ntmps13
  go_wp2_with fail
  refine HSH.out.mono ?_
  rintro e w1 ⟨g1, gx, g3, n2, rfl, hp1, hp3, hm⟩
  dsimp only
  have HP := Lib.hid (And.intro hp1 hp3)
  have M := Lib.hid hm
  clear hp1 hp3 hm HSH
  have c0 := (hm2 M.out g1 gx g3 1 n2 1).1
  have c2 := (hm2 M.out g1 gx g3 1 n2 1).2
  have M1 := Lib.hid (M.out.alloc 24 #[.slice (some ⟨g1, 0, none⟩) 1 1, .slice (some ⟨gx, 0, none⟩) n2 n2, .slice (some ⟨g3, 0, none⟩) 1 1])
  have HP1 := Lib.hid (And.intro (HP.out.1.alloc (.cells #[.slice (some ⟨g1, 0, none⟩) 1 1, .slice (some ⟨gx, 0, none⟩) n2 n2, .slice (some ⟨g3, 0, none⟩) 1 1] 24)) (HP.out.2.alloc (.cells #[.slice (some ⟨g1, 0, none⟩) 1 1, .slice (some ⟨gx, 0, none⟩) n2 n2, .slice (some ⟨g3, 0, none⟩) 1 1] 24)))
  clear M HP
  go_upto_region 4 with fail
  generalize World.alloc _ _ = w2 at M1 HP1 c0 c2 ⊢
  generalize w1.heap.size = gb at M1 c0 c2 ⊢
  go_wp2_with fail
  refine (taken_any A n c l _ 1 _ (pinsL b_ftrig.st) w2 (HR.out.below M1.out.bel) HP1.out.2 (by decide)).mono ?_
  rintro e w3 ⟨gs, rfl, ho, hb⟩
  dsimp only
  have M3 := Lib.hid (M1.out.made hb ho)
  have HP3 := Lib.hid (HP1.out.1.below hb)
  have e0 : w3.cell? ⟨gb, 0, none⟩ = some (.slice (some ⟨g1, 0, none⟩) 1 1) := (hb.cell (lt_of_cell c0)).trans c0
  clear M1 HP1 c0 c2 ho hb
  go_wp2_with fail
  refine (taken_any A' n' c' l' _ 1 _ (pinsL b_ftrig.ins) w3 (HR'.out.below M3.out.bel) HP3.out (by decide)).mono ?_
  rintro e w4 ⟨gi, rfl, ho, hb⟩
  dsimp only
  have M4 := Lib.hid (M3.out.made hb ho)
  clear M3 HP3 e0 ho hb
  go_wp2_with fail
  refine (WrapR_any 5 now w4).mono ?_
  rintro e w5 ⟨rfl, rfl⟩
  dsimp only
  rw [hnow]
  rw [HSI.out.1, HSI.out.2] at M4
  have M5 := Lib.hid (M4.out.delK 0)
  have HS : Hid (Rd w4 1 (some ⟨gs, 0, none⟩) 1 (ints [a])) := M5.out.rdO 1 rfl
  have HI : Hid (Rd w4 1 (some ⟨gi, 0, none⟩) 1 (ints [x])) := M5.out.rdO 0 rfl
  clear M4 HSI HR HR' hnow
  have s0 : w4.cell? ⟨gs, 0, none⟩ = some (.int .i64 a) := rd_cells HS.out (by decide) 0 _ rfl
  have i0 : w4.cell? ⟨gi, 0, none⟩ = some (.int .i64 x) := rd_cells HI.out (by decide) 0 _ rfl
  have hlt1 := lt_of_cell i0
  have hlt2 := lt_of_cell s0
  clear HS HI
  go_upto_region 19 with fail
  rcases ha with rfl | rfl <;> rcases hx with rfl | rfl
  · have dd : w4.drew.cell? ⟨gi, 0, none⟩ = some (.int .i64 0) ∧ w4.drew.cell? ⟨gs, 0, none⟩ = some (.int .i64 0) := ⟨i0, s0⟩
    go_region_held3 (fun w' => w'.cell? ⟨gi, 0, none⟩ = some (.int .i64 0) ∧ w'.cell? ⟨gs, 0, none⟩ = some (.int .i64 0)) (first | with_reducible assumption | (refine ⟨?_, ?_⟩ <;> go_simp))
      ((go_at_call 26
        refine (yes_any _ _).mono ?_
        rintro e wy ⟨rfl, rfl⟩
        dsimp only))
    all_goals go_wp2
    all_goals go_ret2
    all_goals first
      | exact ⟨_, _, rfl, _, (two_rows M5.out [0] [yesI false] 1 1 rfl rfl rfl rfl (by decide) (by decide)).drew⟩
      | exact ⟨_, _, rfl, _, (two_rows' M5.out [0] [yesI false] 1 1 rfl rfl rfl rfl (by decide) (by decide)).drew⟩
  · refine wp_region_held_drew (S := fun w' => w'.cell? ⟨gi, 0, none⟩ = some (.int .i64 1)) (by kernel_rfl) ?_ (fun hHeld => ?_)
    · exact i0
    refine wpAnyH_take (i := 0) (v := ?_) rfl (by kernel_rfl) (by kernel_rfl) (by kernel_rfl) (fun _ _ _ h => h) (Or.inl ⟨by rfl, ?_⟩) (by assumption) ?_
    rotate_left
    · intro w' hSw
      (try dsimp only at hSw)
      go_simp
      try with_reducible rfl
    try simp only [Act.put, List.getElem_toArray, List.getElem_cons_zero, List.setIfInBounds_toArray, List.set_cons_zero, List.set_cons_succ]
    refine wpAnyH_take (i := 1) (v := ?_) rfl (by kernel_rfl) (by kernel_rfl) (by kernel_rfl) (fun _ _ _ h => h) (Or.inl ⟨by rfl, ?_⟩) (by assumption) ?_
    rotate_left
    · intro w' hSw
      (try dsimp only at hSw)
      go_simp
      try with_reducible rfl
    try simp only [Act.put, List.getElem_toArray, List.getElem_cons_zero, List.getElem_cons_succ, List.setIfInBounds_toArray, List.set_cons_zero, List.set_cons_succ]
    refine wpAnyH_take (i := 2) (v := ?_) rfl (by kernel_rfl) (by kernel_rfl) (by kernel_rfl) (fun _ _ _ h => h) (Or.inl ⟨by rfl, ?_⟩) (by assumption) ?_
    rotate_left
    · intro w' hSw
      (try dsimp only at hSw)
      go_simp
      try with_reducible rfl
    try simp only [Act.put, List.getElem_toArray, List.getElem_cons_zero, List.getElem_cons_succ, List.setIfInBounds_toArray, List.set_cons_zero, List.set_cons_succ]
    refine wpAnyH_take (i := 4) (v := ?_) rfl (by kernel_rfl) (by kernel_rfl) (by kernel_rfl) (fun _ _ _ h => h) (Or.inl ⟨by rfl, ?_⟩) (by assumption) ?_
    rotate_left
    · intro w' hSw
      (try dsimp only at hSw)
      go_simp
      try with_reducible rfl
    try simp only [Act.put, List.getElem_toArray, List.getElem_cons_zero, List.getElem_cons_succ, List.setIfInBounds_toArray, List.set_cons_zero, List.set_cons_succ]
    refine wpAnyH_take (i := 5) (v := ?_) rfl (by kernel_rfl) (by kernel_rfl) (by kernel_rfl) (fun _ _ _ h => h) (Or.inl ⟨by rfl, ?_⟩) (by assumption) ?_
    rotate_left
    · intro w' hSw
      (try dsimp only at hSw)
      go_simp
      try with_reducible rfl
    try simp only [Act.put, List.getElem_toArray, List.getElem_cons_zero, List.getElem_cons_succ, List.setIfInBounds_toArray, List.set_cons_zero, List.set_cons_succ]
    refine wpAnyH_take (i := 6) (v := ?_) rfl (by kernel_rfl) (by kernel_rfl) (by kernel_rfl) (fun _ _ _ h => h) (Or.inl ⟨by rfl, ?_⟩) (by assumption) ?_
    rotate_left
    · intro w' hSw
      (try dsimp only at hSw)
      go_simp
      try with_reducible rfl
    try simp only [Act.put, List.getElem_toArray, List.getElem_cons_zero, List.getElem_cons_succ, List.setIfInBounds_toArray, List.set_cons_zero, List.set_cons_succ]
    refine wpAnyH_take (i := 7) (v := ?_) rfl (by kernel_rfl) (by kernel_rfl) (by kernel_rfl) (fun _ _ _ h => h) (Or.inl ⟨by rfl, ?_⟩) (by assumption) ?_
    rotate_left
    · intro w' hSw
      (try dsimp only at hSw)
      go_simp
      try with_reducible rfl
    try simp only [Act.put, List.getElem_toArray, List.getElem_cons_zero, List.getElem_cons_succ, List.setIfInBounds_toArray, List.set_cons_zero, List.set_cons_succ]
    refine wpAnyH_take (i := 8) (v := ?_) rfl (by kernel_rfl) (by kernel_rfl) (by kernel_rfl) (fun _ _ _ h => h) (Or.inl ⟨by rfl, ?_⟩) (by assumption) ?_
    rotate_left
    · intro w' hSw
      (try dsimp only at hSw)
      go_simp
      try with_reducible rfl
    try simp only [Act.put, List.getElem_toArray, List.getElem_cons_zero, List.getElem_cons_succ, List.setIfInBounds_toArray, List.set_cons_zero, List.set_cons_succ]
    refine wpAnyH_take (i := 9) (v := undef) rfl (by kernel_rfl) (by kernel_rfl) (by kernel_rfl) (fun _ _ _ h => h) (Or.inr ⟨by rfl, rfl⟩) (by assumption) ?_
    try simp only [Act.put, List.getElem_toArray, List.getElem_cons_zero, List.getElem_cons_succ, List.setIfInBounds_toArray, List.set_cons_zero, List.set_cons_succ]
    refine wpAnyH_take (i := 10) (v := undef) rfl (by kernel_rfl) (by kernel_rfl) (by kernel_rfl) (fun _ _ _ h => h) (Or.inr ⟨by rfl, rfl⟩) (by assumption) ?_
    try simp only [Act.put, List.getElem_toArray, List.getElem_cons_zero, List.getElem_cons_succ, List.setIfInBounds_toArray, List.set_cons_zero, List.set_cons_succ]
    refine wpAnyH_take (i := 11) (v := undef) rfl (by kernel_rfl) (by kernel_rfl) (by kernel_rfl) (fun _ _ _ h => h) (Or.inr ⟨by rfl, rfl⟩) (by assumption) ?_
    try simp only [Act.put, List.getElem_toArray, List.getElem_cons_zero, List.getElem_cons_succ, List.setIfInBounds_toArray, List.set_cons_zero, List.set_cons_succ]
    refine wpAnyH_take (i := 12) (v := undef) rfl (by kernel_rfl) (by kernel_rfl) (by kernel_rfl) (fun _ _ _ h => h) (Or.inr ⟨by rfl, rfl⟩) (by assumption) ?_
    try simp only [Act.put, List.getElem_toArray, List.getElem_cons_zero, List.getElem_cons_succ, List.setIfInBounds_toArray, List.set_cons_zero, List.set_cons_succ]
    refine wpAnyH_take (i := 13) (v := ?_) rfl (by kernel_rfl) (by kernel_rfl) (by kernel_rfl) (fun _ _ _ h => h) (Or.inl ⟨by rfl, ?_⟩) (by assumption) ?_
    rotate_left
    · intro w' hSw
      (try dsimp only at hSw)
      go_simp
      try with_reducible rfl
    try simp only [Act.put, List.getElem_toArray, List.getElem_cons_zero, List.getElem_cons_succ, List.setIfInBounds_toArray, List.set_cons_zero, List.set_cons_succ]
    refine wpAnyH_ready (rs := [3, 14]) (by kernel_rfl) (by simp) ?_
    refine AllReadyH.cons rfl (fun K hK => ?_) (AllReadyH.cons rfl (fun K hK => ?_) AllReadyH.nil)
    · have HKK := Lib.hid hK
      clear hK
      go_simp
      refine HKK.out.out _ _ ?_ (fun hHeld => ?_)
      · first | with_reducible assumption | ((try dsimp only); go_simp)
      clear HKK K
      try simp only [Act.put, List.getElem_toArray, List.getElem_cons_zero, List.getElem_cons_succ, List.setIfInBounds_toArray, List.set_cons_zero, List.set_cons_succ]
      refine wpAnyH_ready (rs := [14]) (by kernel_rfl) (by simp) ?_
      refine AllReadyH.cons rfl (fun K hK => ?_) AllReadyH.nil
      have HKK := Lib.hid hK
      clear hK
      go_simp
      refine (yes_any _ _).mono ?_
      rintro e wy ⟨rfl, rfl⟩
      try dsimp only
      refine HKK.out.out _ _ ?_ (fun hHeld => ?_)
      · first | with_reducible assumption | ((try dsimp only); go_simp)
      clear HKK K
      try simp only [Act.put, List.getElem_toArray, List.getElem_cons_zero, List.getElem_cons_succ, List.setIfInBounds_toArray, List.set_cons_zero, List.set_cons_succ]
      refine wpAnyH_take (i := 16) (v := ?_) rfl (by kernel_rfl) (by kernel_rfl) (by kernel_rfl) (fun _ _ _ h => h) (Or.inl ⟨by rfl, ?_⟩) (by assumption) ?_
      rotate_left
      · intro w' hSw
        (try dsimp only at hSw)
        go_simp
        try with_reducible rfl
      try simp only [Act.put, List.getElem_toArray, List.getElem_cons_zero, List.getElem_cons_succ, List.setIfInBounds_toArray, List.set_cons_zero, List.set_cons_succ]
      refine wpAnyH_ready (rs := [15]) (by kernel_rfl) (by simp) ?_
      refine AllReadyH.cons rfl (fun K hK => ?_) AllReadyH.nil
      have HKK := Lib.hid hK
      clear hK
      go_simp
      refine HKK.out.out _ _ ?_ (fun hHeld => ?_)
      · first | with_reducible assumption | ((try dsimp only); go_simp)
      clear HKK K
      try simp only [Act.put, List.getElem_toArray, List.getElem_cons_zero, List.getElem_cons_succ, List.setIfInBounds_toArray, List.set_cons_zero, List.set_cons_succ]
      refine wpAnyH_take (i := 17) (v := ?_) rfl (by kernel_rfl) (by kernel_rfl) (by kernel_rfl) (fun _ _ _ h => h) (Or.inl ⟨by rfl, ?_⟩) (by assumption) ?_
      rotate_left
      · intro w' hSw
        (try dsimp only at hSw)
        go_simp
        try with_reducible rfl
      try simp only [Act.put, List.getElem_toArray, List.getElem_cons_zero, List.getElem_cons_succ, List.setIfInBounds_toArray, List.set_cons_zero, List.set_cons_succ]
      refine wpAnyH_done (by kernel_rfl) ?_ _
      go_wp2
      go_ret2
      skip
      first
        | exact ⟨_, _, rfl, _, (two_rows M5.out [1] [yesI false] 1 1 rfl rfl rfl rfl (by decide) (by decide)).drew⟩
        | exact ⟨_, _, rfl, _, (two_rows' M5.out [1] [yesI false] 1 1 rfl rfl rfl rfl (by decide) (by decide)).drew⟩
    · have HKK := Lib.hid hK
      clear hK
      go_simp
      refine (yes_any _ _).mono ?_
      rintro e wy ⟨rfl, rfl⟩
      try dsimp only
      refine HKK.out.out _ _ ?_ (fun hHeld => ?_)
      · first | with_reducible assumption | ((try dsimp only); go_simp)
      clear HKK K
      try simp only [Act.put, List.getElem_toArray, List.getElem_cons_zero, List.getElem_cons_succ, List.setIfInBounds_toArray, List.set_cons_zero, List.set_cons_succ]
      refine wpAnyH_ready (rs := [3, 15]) (by kernel_rfl) (by simp) ?_
      refine AllReadyH.cons rfl (fun K hK => ?_) (AllReadyH.cons rfl (fun K hK => ?_) AllReadyH.nil)
      · have HKK := Lib.hid hK
        clear hK
        go_simp
        refine HKK.out.out _ _ ?_ (fun hHeld => ?_)
        · first | with_reducible assumption | ((try dsimp only); go_simp)
        clear HKK K
        try simp only [Act.put, List.getElem_toArray, List.getElem_cons_zero, List.getElem_cons_succ, List.setIfInBounds_toArray, List.set_cons_zero, List.set_cons_succ]
        refine wpAnyH_take (i := 16) (v := ?_) rfl (by kernel_rfl) (by kernel_rfl) (by kernel_rfl) (fun _ _ _ h => h) (Or.inl ⟨by rfl, ?_⟩) (by assumption) ?_
        rotate_left
        · intro w' hSw
          (try dsimp only at hSw)
          go_simp
          try with_reducible rfl
        try simp only [Act.put, List.getElem_toArray, List.getElem_cons_zero, List.getElem_cons_succ, List.setIfInBounds_toArray, List.set_cons_zero, List.set_cons_succ]
        refine wpAnyH_ready (rs := [15]) (by kernel_rfl) (by simp) ?_
        refine AllReadyH.cons rfl (fun K hK => ?_) AllReadyH.nil
        have HKK := Lib.hid hK
        clear hK
        go_simp
        refine HKK.out.out _ _ ?_ (fun hHeld => ?_)
        · first | with_reducible assumption | ((try dsimp only); go_simp)
        clear HKK K
        try simp only [Act.put, List.getElem_toArray, List.getElem_cons_zero, List.getElem_cons_succ, List.setIfInBounds_toArray, List.set_cons_zero, List.set_cons_succ]
        refine wpAnyH_take (i := 17) (v := ?_) rfl (by kernel_rfl) (by kernel_rfl) (by kernel_rfl) (fun _ _ _ h => h) (Or.inl ⟨by rfl, ?_⟩) (by assumption) ?_
        rotate_left
        · intro w' hSw
          (try dsimp only at hSw)
          go_simp
          try with_reducible rfl
        try simp only [Act.put, List.getElem_toArray, List.getElem_cons_zero, List.getElem_cons_succ, List.setIfInBounds_toArray, List.set_cons_zero, List.set_cons_succ]
        refine wpAnyH_done (by kernel_rfl) ?_ _
        go_wp2
        go_ret2
        skip
        first
          | exact ⟨_, _, rfl, _, (two_rows M5.out [1] [yesI false] 1 1 rfl rfl rfl rfl (by decide) (by decide)).drew⟩
          | exact ⟨_, _, rfl, _, (two_rows' M5.out [1] [yesI false] 1 1 rfl rfl rfl rfl (by decide) (by decide)).drew⟩
      · have HKK := Lib.hid hK
        clear hK
        go_simp
        refine HKK.out.out _ _ ?_ (fun hHeld => ?_)
        · first | with_reducible assumption | ((try dsimp only); go_simp)
        clear HKK K
        try simp only [Act.put, List.getElem_toArray, List.getElem_cons_zero, List.getElem_cons_succ, List.setIfInBounds_toArray, List.set_cons_zero, List.set_cons_succ]
        refine wpAnyH_ready (rs := [3]) (by kernel_rfl) (by simp) ?_
        refine AllReadyH.cons rfl (fun K hK => ?_) AllReadyH.nil
        have HKK := Lib.hid hK
        clear hK
        go_simp
        refine HKK.out.out _ _ ?_ (fun hHeld => ?_)
        · first | with_reducible assumption | ((try dsimp only); go_simp)
        clear HKK K
        try simp only [Act.put, List.getElem_toArray, List.getElem_cons_zero, List.getElem_cons_succ, List.setIfInBounds_toArray, List.set_cons_zero, List.set_cons_succ]
        refine wpAnyH_take (i := 16) (v := ?_) rfl (by kernel_rfl) (by kernel_rfl) (by kernel_rfl) (fun _ _ _ h => h) (Or.inl ⟨by rfl, ?_⟩) (by assumption) ?_
        rotate_left
        · intro w' hSw
          (try dsimp only at hSw)
          go_simp
          try with_reducible rfl
        try simp only [Act.put, List.getElem_toArray, List.getElem_cons_zero, List.getElem_cons_succ, List.setIfInBounds_toArray, List.set_cons_zero, List.set_cons_succ]
        refine wpAnyH_take (i := 17) (v := ?_) rfl (by kernel_rfl) (by kernel_rfl) (by kernel_rfl) (fun _ _ _ h => h) (Or.inl ⟨by rfl, ?_⟩) (by assumption) ?_
        rotate_left
        · intro w' hSw
          (try dsimp only at hSw)
          go_simp
          try with_reducible rfl
        try simp only [Act.put, List.getElem_toArray, List.getElem_cons_zero, List.getElem_cons_succ, List.setIfInBounds_toArray, List.set_cons_zero, List.set_cons_succ]
        refine wpAnyH_done (by kernel_rfl) ?_ _
        go_wp2
        go_ret2
        skip
        first
          | exact ⟨_, _, rfl, _, (two_rows M5.out [1] [yesI false] 1 1 rfl rfl rfl rfl (by decide) (by decide)).drew⟩
          | exact ⟨_, _, rfl, _, (two_rows' M5.out [1] [yesI false] 1 1 rfl rfl rfl rfl (by decide) (by decide)).drew⟩
  · have dd : w4.drew.cell? ⟨gi, 0, none⟩ = some (.int .i64 0) ∧ w4.drew.cell? ⟨gs, 0, none⟩ = some (.int .i64 1) := ⟨i0, s0⟩
    go_region_held3 (fun w' => w'.cell? ⟨gi, 0, none⟩ = some (.int .i64 0) ∧ w'.cell? ⟨gs, 0, none⟩ = some (.int .i64 1)) (first | with_reducible assumption | (refine ⟨?_, ?_⟩ <;> go_simp))
      ((go_at_call 26
        refine (yes_any _ _).mono ?_
        rintro e wy ⟨rfl, rfl⟩
        dsimp only))
    all_goals go_wp2
    all_goals go_ret2
    all_goals first
      | exact ⟨_, _, rfl, _, (two_rows M5.out [0] [yesI true] 1 1 rfl rfl rfl rfl (by decide) (by decide)).drew⟩
      | exact ⟨_, _, rfl, _, (two_rows' M5.out [0] [yesI true] 1 1 rfl rfl rfl rfl (by decide) (by decide)).drew⟩
  · refine wp_region_held_drew (S := fun w' => w'.cell? ⟨gi, 0, none⟩ = some (.int .i64 1)) (by kernel_rfl) ?_ (fun hHeld => ?_)
    · exact i0
    refine wpAnyH_take (i := 0) (v := ?_) rfl (by kernel_rfl) (by kernel_rfl) (by kernel_rfl) (fun _ _ _ h => h) (Or.inl ⟨by rfl, ?_⟩) (by assumption) ?_
    rotate_left
    · intro w' hSw
      (try dsimp only at hSw)
      go_simp
      try with_reducible rfl
    try simp only [Act.put, List.getElem_toArray, List.getElem_cons_zero, List.setIfInBounds_toArray, List.set_cons_zero, List.set_cons_succ]
    refine wpAnyH_take (i := 1) (v := ?_) rfl (by kernel_rfl) (by kernel_rfl) (by kernel_rfl) (fun _ _ _ h => h) (Or.inl ⟨by rfl, ?_⟩) (by assumption) ?_
    rotate_left
    · intro w' hSw
      (try dsimp only at hSw)
      go_simp
      try with_reducible rfl
    try simp only [Act.put, List.getElem_toArray, List.getElem_cons_zero, List.getElem_cons_succ, List.setIfInBounds_toArray, List.set_cons_zero, List.set_cons_succ]
    refine wpAnyH_take (i := 2) (v := ?_) rfl (by kernel_rfl) (by kernel_rfl) (by kernel_rfl) (fun _ _ _ h => h) (Or.inl ⟨by rfl, ?_⟩) (by assumption) ?_
    rotate_left
    · intro w' hSw
      (try dsimp only at hSw)
      go_simp
      try with_reducible rfl
    try simp only [Act.put, List.getElem_toArray, List.getElem_cons_zero, List.getElem_cons_succ, List.setIfInBounds_toArray, List.set_cons_zero, List.set_cons_succ]
    refine wpAnyH_take (i := 4) (v := ?_) rfl (by kernel_rfl) (by kernel_rfl) (by kernel_rfl) (fun _ _ _ h => h) (Or.inl ⟨by rfl, ?_⟩) (by assumption) ?_
    rotate_left
    · intro w' hSw
      (try dsimp only at hSw)
      go_simp
      try with_reducible rfl
    try simp only [Act.put, List.getElem_toArray, List.getElem_cons_zero, List.getElem_cons_succ, List.setIfInBounds_toArray, List.set_cons_zero, List.set_cons_succ]
    refine wpAnyH_take (i := 5) (v := ?_) rfl (by kernel_rfl) (by kernel_rfl) (by kernel_rfl) (fun _ _ _ h => h) (Or.inl ⟨by rfl, ?_⟩) (by assumption) ?_
    rotate_left
    · intro w' hSw
      (try dsimp only at hSw)
      go_simp
      try with_reducible rfl
    try simp only [Act.put, List.getElem_toArray, List.getElem_cons_zero, List.getElem_cons_succ, List.setIfInBounds_toArray, List.set_cons_zero, List.set_cons_succ]
    refine wpAnyH_take (i := 6) (v := ?_) rfl (by kernel_rfl) (by kernel_rfl) (by kernel_rfl) (fun _ _ _ h => h) (Or.inl ⟨by rfl, ?_⟩) (by assumption) ?_
    rotate_left
    · intro w' hSw
      (try dsimp only at hSw)
      go_simp
      try with_reducible rfl
    try simp only [Act.put, List.getElem_toArray, List.getElem_cons_zero, List.getElem_cons_succ, List.setIfInBounds_toArray, List.set_cons_zero, List.set_cons_succ]
    refine wpAnyH_take (i := 7) (v := ?_) rfl (by kernel_rfl) (by kernel_rfl) (by kernel_rfl) (fun _ _ _ h => h) (Or.inl ⟨by rfl, ?_⟩) (by assumption) ?_
    rotate_left
    · intro w' hSw
      (try dsimp only at hSw)
      go_simp
      try with_reducible rfl
    try simp only [Act.put, List.getElem_toArray, List.getElem_cons_zero, List.getElem_cons_succ, List.setIfInBounds_toArray, List.set_cons_zero, List.set_cons_succ]
    refine wpAnyH_take (i := 8) (v := ?_) rfl (by kernel_rfl) (by kernel_rfl) (by kernel_rfl) (fun _ _ _ h => h) (Or.inl ⟨by rfl, ?_⟩) (by assumption) ?_
    rotate_left
    · intro w' hSw
      (try dsimp only at hSw)
      go_simp
      try with_reducible rfl
    try simp only [Act.put, List.getElem_toArray, List.getElem_cons_zero, List.getElem_cons_succ, List.setIfInBounds_toArray, List.set_cons_zero, List.set_cons_succ]
    refine wpAnyH_take (i := 9) (v := undef) rfl (by kernel_rfl) (by kernel_rfl) (by kernel_rfl) (fun _ _ _ h => h) (Or.inr ⟨by rfl, rfl⟩) (by assumption) ?_
    try simp only [Act.put, List.getElem_toArray, List.getElem_cons_zero, List.getElem_cons_succ, List.setIfInBounds_toArray, List.set_cons_zero, List.set_cons_succ]
    refine wpAnyH_take (i := 10) (v := undef) rfl (by kernel_rfl) (by kernel_rfl) (by kernel_rfl) (fun _ _ _ h => h) (Or.inr ⟨by rfl, rfl⟩) (by assumption) ?_
    try simp only [Act.put, List.getElem_toArray, List.getElem_cons_zero, List.getElem_cons_succ, List.setIfInBounds_toArray, List.set_cons_zero, List.set_cons_succ]
    refine wpAnyH_take (i := 11) (v := undef) rfl (by kernel_rfl) (by kernel_rfl) (by kernel_rfl) (fun _ _ _ h => h) (Or.inr ⟨by rfl, rfl⟩) (by assumption) ?_
    try simp only [Act.put, List.getElem_toArray, List.getElem_cons_zero, List.getElem_cons_succ, List.setIfInBounds_toArray, List.set_cons_zero, List.set_cons_succ]
    refine wpAnyH_take (i := 12) (v := undef) rfl (by kernel_rfl) (by kernel_rfl) (by kernel_rfl) (fun _ _ _ h => h) (Or.inr ⟨by rfl, rfl⟩) (by assumption) ?_
    try simp only [Act.put, List.getElem_toArray, List.getElem_cons_zero, List.getElem_cons_succ, List.setIfInBounds_toArray, List.set_cons_zero, List.set_cons_succ]
    refine wpAnyH_take (i := 13) (v := ?_) rfl (by kernel_rfl) (by kernel_rfl) (by kernel_rfl) (fun _ _ _ h => h) (Or.inl ⟨by rfl, ?_⟩) (by assumption) ?_
    rotate_left
    · intro w' hSw
      (try dsimp only at hSw)
      go_simp
      try with_reducible rfl
    try simp only [Act.put, List.getElem_toArray, List.getElem_cons_zero, List.getElem_cons_succ, List.setIfInBounds_toArray, List.set_cons_zero, List.set_cons_succ]
    refine wpAnyH_ready (rs := [3, 14]) (by kernel_rfl) (by simp) ?_
    refine AllReadyH.cons rfl (fun K hK => ?_) (AllReadyH.cons rfl (fun K hK => ?_) AllReadyH.nil)
    · have HKK := Lib.hid hK
      clear hK
      go_simp
      refine HKK.out.out _ _ ?_ (fun hHeld => ?_)
      · first | with_reducible assumption | ((try dsimp only); go_simp)
      clear HKK K
      try simp only [Act.put, List.getElem_toArray, List.getElem_cons_zero, List.getElem_cons_succ, List.setIfInBounds_toArray, List.set_cons_zero, List.set_cons_succ]
      refine wpAnyH_ready (rs := [14]) (by kernel_rfl) (by simp) ?_
      refine AllReadyH.cons rfl (fun K hK => ?_) AllReadyH.nil
      have HKK := Lib.hid hK
      clear hK
      go_simp
      refine (yes_any _ _).mono ?_
      rintro e wy ⟨rfl, rfl⟩
      try dsimp only
      refine HKK.out.out _ _ ?_ (fun hHeld => ?_)
      · first | with_reducible assumption | ((try dsimp only); go_simp)
      clear HKK K
      try simp only [Act.put, List.getElem_toArray, List.getElem_cons_zero, List.getElem_cons_succ, List.setIfInBounds_toArray, List.set_cons_zero, List.set_cons_succ]
      refine wpAnyH_take (i := 16) (v := ?_) rfl (by kernel_rfl) (by kernel_rfl) (by kernel_rfl) (fun _ _ _ h => h) (Or.inl ⟨by rfl, ?_⟩) (by assumption) ?_
      rotate_left
      · intro w' hSw
        (try dsimp only at hSw)
        go_simp
        try with_reducible rfl
      try simp only [Act.put, List.getElem_toArray, List.getElem_cons_zero, List.getElem_cons_succ, List.setIfInBounds_toArray, List.set_cons_zero, List.set_cons_succ]
      refine wpAnyH_ready (rs := [15]) (by kernel_rfl) (by simp) ?_
      refine AllReadyH.cons rfl (fun K hK => ?_) AllReadyH.nil
      have HKK := Lib.hid hK
      clear hK
      go_simp
      refine HKK.out.out _ _ ?_ (fun hHeld => ?_)
      · first | with_reducible assumption | ((try dsimp only); go_simp)
      clear HKK K
      try simp only [Act.put, List.getElem_toArray, List.getElem_cons_zero, List.getElem_cons_succ, List.setIfInBounds_toArray, List.set_cons_zero, List.set_cons_succ]
      refine wpAnyH_take (i := 17) (v := ?_) rfl (by kernel_rfl) (by kernel_rfl) (by kernel_rfl) (fun _ _ _ h => h) (Or.inl ⟨by rfl, ?_⟩) (by assumption) ?_
      rotate_left
      · intro w' hSw
        (try dsimp only at hSw)
        go_simp
        try with_reducible rfl
      try simp only [Act.put, List.getElem_toArray, List.getElem_cons_zero, List.getElem_cons_succ, List.setIfInBounds_toArray, List.set_cons_zero, List.set_cons_succ]
      refine wpAnyH_done (by kernel_rfl) ?_ _
      go_wp2
      go_ret2
      skip
      first
        | exact ⟨_, _, rfl, _, (two_rows M5.out [1] [yesI false] 1 1 rfl rfl rfl rfl (by decide) (by decide)).drew⟩
        | exact ⟨_, _, rfl, _, (two_rows' M5.out [1] [yesI false] 1 1 rfl rfl rfl rfl (by decide) (by decide)).drew⟩
    · have HKK := Lib.hid hK
      clear hK
      go_simp
      refine (yes_any _ _).mono ?_
      rintro e wy ⟨rfl, rfl⟩
      try dsimp only
      refine HKK.out.out _ _ ?_ (fun hHeld => ?_)
      · first | with_reducible assumption | ((try dsimp only); go_simp)
      clear HKK K
      try simp only [Act.put, List.getElem_toArray, List.getElem_cons_zero, List.getElem_cons_succ, List.setIfInBounds_toArray, List.set_cons_zero, List.set_cons_succ]
      refine wpAnyH_ready (rs := [3, 15]) (by kernel_rfl) (by simp) ?_
      refine AllReadyH.cons rfl (fun K hK => ?_) (AllReadyH.cons rfl (fun K hK => ?_) AllReadyH.nil)
      · have HKK := Lib.hid hK
        clear hK
        go_simp
        refine HKK.out.out _ _ ?_ (fun hHeld => ?_)
        · first | with_reducible assumption | ((try dsimp only); go_simp)
        clear HKK K
        try simp only [Act.put, List.getElem_toArray, List.getElem_cons_zero, List.getElem_cons_succ, List.setIfInBounds_toArray, List.set_cons_zero, List.set_cons_succ]
        refine wpAnyH_take (i := 16) (v := ?_) rfl (by kernel_rfl) (by kernel_rfl) (by kernel_rfl) (fun _ _ _ h => h) (Or.inl ⟨by rfl, ?_⟩) (by assumption) ?_
        rotate_left
        · intro w' hSw
          (try dsimp only at hSw)
          go_simp
          try with_reducible rfl
        try simp only [Act.put, List.getElem_toArray, List.getElem_cons_zero, List.getElem_cons_succ, List.setIfInBounds_toArray, List.set_cons_zero, List.set_cons_succ]
        refine wpAnyH_ready (rs := [15]) (by kernel_rfl) (by simp) ?_
        refine AllReadyH.cons rfl (fun K hK => ?_) AllReadyH.nil
        have HKK := Lib.hid hK
        clear hK
        go_simp
        refine HKK.out.out _ _ ?_ (fun hHeld => ?_)
        · first | with_reducible assumption | ((try dsimp only); go_simp)
        clear HKK K
        try simp only [Act.put, List.getElem_toArray, List.getElem_cons_zero, List.getElem_cons_succ, List.setIfInBounds_toArray, List.set_cons_zero, List.set_cons_succ]
        refine wpAnyH_take (i := 17) (v := ?_) rfl (by kernel_rfl) (by kernel_rfl) (by kernel_rfl) (fun _ _ _ h => h) (Or.inl ⟨by rfl, ?_⟩) (by assumption) ?_
        rotate_left
        · intro w' hSw
          (try dsimp only at hSw)
          go_simp
          try with_reducible rfl
        try simp only [Act.put, List.getElem_toArray, List.getElem_cons_zero, List.getElem_cons_succ, List.setIfInBounds_toArray, List.set_cons_zero, List.set_cons_succ]
        refine wpAnyH_done (by kernel_rfl) ?_ _
        go_wp2
        go_ret2
        skip
        first
          | exact ⟨_, _, rfl, _, (two_rows M5.out [1] [yesI false] 1 1 rfl rfl rfl rfl (by decide) (by decide)).drew⟩
          | exact ⟨_, _, rfl, _, (two_rows' M5.out [1] [yesI false] 1 1 rfl rfl rfl rfl (by decide) (by decide)).drew⟩
      · have HKK := Lib.hid hK
        clear hK
        go_simp
        refine HKK.out.out _ _ ?_ (fun hHeld => ?_)
        · first | with_reducible assumption | ((try dsimp only); go_simp)
        clear HKK K
        try simp only [Act.put, List.getElem_toArray, List.getElem_cons_zero, List.getElem_cons_succ, List.setIfInBounds_toArray, List.set_cons_zero, List.set_cons_succ]
        refine wpAnyH_ready (rs := [3]) (by kernel_rfl) (by simp) ?_
        refine AllReadyH.cons rfl (fun K hK => ?_) AllReadyH.nil
        have HKK := Lib.hid hK
        clear hK
        go_simp
        refine HKK.out.out _ _ ?_ (fun hHeld => ?_)
        · first | with_reducible assumption | ((try dsimp only); go_simp)
        clear HKK K
        try simp only [Act.put, List.getElem_toArray, List.getElem_cons_zero, List.getElem_cons_succ, List.setIfInBounds_toArray, List.set_cons_zero, List.set_cons_succ]
        refine wpAnyH_take (i := 16) (v := ?_) rfl (by kernel_rfl) (by kernel_rfl) (by kernel_rfl) (fun _ _ _ h => h) (Or.inl ⟨by rfl, ?_⟩) (by assumption) ?_
        rotate_left
        · intro w' hSw
          (try dsimp only at hSw)
          go_simp
          try with_reducible rfl
        try simp only [Act.put, List.getElem_toArray, List.getElem_cons_zero, List.getElem_cons_succ, List.setIfInBounds_toArray, List.set_cons_zero, List.set_cons_succ]
        refine wpAnyH_take (i := 17) (v := ?_) rfl (by kernel_rfl) (by kernel_rfl) (by kernel_rfl) (fun _ _ _ h => h) (Or.inl ⟨by rfl, ?_⟩) (by assumption) ?_
        rotate_left
        · intro w' hSw
          (try dsimp only at hSw)
          go_simp
          try with_reducible rfl
        try simp only [Act.put, List.getElem_toArray, List.getElem_cons_zero, List.getElem_cons_succ, List.setIfInBounds_toArray, List.set_cons_zero, List.set_cons_succ]
        refine wpAnyH_done (by kernel_rfl) ?_ _
        go_wp2
        go_ret2
        skip
        first
          | exact ⟨_, _, rfl, _, (two_rows M5.out [1] [yesI false] 1 1 rfl rfl rfl rfl (by decide) (by decide)).drew⟩
          | exact ⟨_, _, rfl, _, (two_rows' M5.out [1] [yesI false] 1 1 rfl rfl rfl rfl (by decide) (by decide)).drew⟩
end Go.Proofs.YthgjjclmepfbpaaDoor.Blk
