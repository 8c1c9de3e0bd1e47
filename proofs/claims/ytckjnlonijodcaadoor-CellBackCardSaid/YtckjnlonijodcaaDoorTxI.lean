/-
  The program's Show of times. Conditions: the table of powers of ten as it is laid; that the number is a time.
-/
import Derived.Test.YtckjnlonijodcaaDoorTxH
namespace Go.Proofs.YtckjnlonijodcaaDoor.Tx
open Go.RowKit Go.Proofs.YtckjnlonijodcaaDoor.W Go.Proofs.YtckjnlonijodcaaDoor.Num Go.Proofs.YtckjnlonijodcaaDoor.Cell

abbrev TabX (w : World) : Prop := Lib.TabIs Tryd.prog w "internal/strconv.uint64pow10" .u64 Lib.pow10Tab
theorem tab_below {w w' : World} (h : TabX w) (hb : Below w.heap.size w w') : TabX w' := TabIs_below (g := 1) (by kernel_rfl) h hb
/-- the number in its box, the builder beside -/
structure SH (w0 w : World) (N : Nat) (l : List UInt8) : Prop where
  num : Blk w w0.heap.size 3 #[.int .i64 (N : Int)]
  bld : Lib.IsBuilder 62 5 (w0.heap.size + 1) (w0.heap.size + 1) (Lib.byteCells l) w
  bel : Below w0.heap.size w0 w
  tab : TabX w0
  siz : w0.heap.size + 1 ≤ w.heap.size
  bd : N ≤ 4294967295
theorem SH.step {w0 w w' : World} {N M : Nat} {l m : List UInt8} (h : SH w0 w N l) (hM : M ≤ N) (hk : Blk w' w0.heap.size 3 #[.int .i64 (M : Int)]) (hb : Lib.IsBuilder 62 5 (w0.heap.size + 1) (w0.heap.size + 1) (Lib.byteCells m) w') (hl : Below w0.heap.size w w') : SH w0 w' M m :=
  ⟨hk, hb, h.bel.trans hl, h.tab, Nat.le_trans h.siz hl.size, Nat.le_trans hM h.bd⟩
theorem SH.part_d {w0 w : World} {N : Nat} {l m : List UInt8} {M : Nat} (h : SH w0 w N l) (hl : l.length ≤ 1000000000000) (hm : l ++ partF (N / 86400000) [100] = m) (hM : N % 86400000 = M) : Calls Tryd.prog 46 #[.int .i64 86400000, .string { data := #[100] }, .pointer (some ⟨w0.heap.size, 0, none⟩), .pointer (some ⟨w0.heap.size + 1, 0, none⟩)] w fun e w' => e = .returned (.tuple #[]) ∧ SH w0 w' M m :=
  (Tx.part_d N l w0.heap.size (w0.heap.size + 1) (w0.heap.size + 1) w h.bd hl h.num h.bld (by omega) h.siz (tab_below h.tab h.bel)).mono fun _ _ ⟨he, hk, hb, hbl⟩ => by subst hm hM; exact ⟨he, h.step (Nat.mod_le _ _) hk hb hbl⟩
theorem SH.part_h {w0 w : World} {N : Nat} {l m : List UInt8} {M : Nat} (h : SH w0 w N l) (hl : l.length ≤ 1000000000000) (hm : l ++ partF (N / 3600000) [104] = m) (hM : N % 3600000 = M) : Calls Tryd.prog 46 #[.int .i64 3600000, .string { data := #[104] }, .pointer (some ⟨w0.heap.size, 0, none⟩), .pointer (some ⟨w0.heap.size + 1, 0, none⟩)] w fun e w' => e = .returned (.tuple #[]) ∧ SH w0 w' M m :=
  (Tx.part_h N l w0.heap.size (w0.heap.size + 1) (w0.heap.size + 1) w h.bd hl h.num h.bld (by omega) h.siz (tab_below h.tab h.bel)).mono fun _ _ ⟨he, hk, hb, hbl⟩ => by subst hm hM; exact ⟨he, h.step (Nat.mod_le _ _) hk hb hbl⟩
theorem SH.part_m {w0 w : World} {N : Nat} {l m : List UInt8} {M : Nat} (h : SH w0 w N l) (hl : l.length ≤ 1000000000000) (hm : l ++ partF (N / 60000) [109] = m) (hM : N % 60000 = M) : Calls Tryd.prog 46 #[.int .i64 60000, .string { data := #[109] }, .pointer (some ⟨w0.heap.size, 0, none⟩), .pointer (some ⟨w0.heap.size + 1, 0, none⟩)] w fun e w' => e = .returned (.tuple #[]) ∧ SH w0 w' M m :=
  (Tx.part_m N l w0.heap.size (w0.heap.size + 1) (w0.heap.size + 1) w h.bd hl h.num h.bld (by omega) h.siz (tab_below h.tab h.bel)).mono fun _ _ ⟨he, hk, hb, hbl⟩ => by subst hm hM; exact ⟨he, h.step (Nat.mod_le _ _) hk hb hbl⟩
theorem SH.part_s {w0 w : World} {N : Nat} {l m : List UInt8} {M : Nat} (h : SH w0 w N l) (hl : l.length ≤ 1000000000000) (hm : l ++ partF (N / 1000) [115] = m) (hM : N % 1000 = M) : Calls Tryd.prog 46 #[.int .i64 1000, .string { data := #[115] }, .pointer (some ⟨w0.heap.size, 0, none⟩), .pointer (some ⟨w0.heap.size + 1, 0, none⟩)] w fun e w' => e = .returned (.tuple #[]) ∧ SH w0 w' M m :=
  (Tx.part_s N l w0.heap.size (w0.heap.size + 1) (w0.heap.size + 1) w h.bd hl h.num h.bld (by omega) h.siz (tab_below h.tab h.bel)).mono fun _ _ ⟨he, hk, hb, hbl⟩ => by subst hm hM; exact ⟨he, h.step (Nat.mod_le _ _) hk hb hbl⟩
theorem SH.part_z {w0 w : World} {N : Nat} {l m : List UInt8} {M : Nat} (h : SH w0 w N l) (hl : l.length ≤ 1000000000000) (hm : l ++ partF (N / 1) [109, 115] = m) (hM : N % 1 = M) : Calls Tryd.prog 46 #[.int .i64 1, .string { data := #[109, 115] }, .pointer (some ⟨w0.heap.size, 0, none⟩), .pointer (some ⟨w0.heap.size + 1, 0, none⟩)] w fun e w' => e = .returned (.tuple #[]) ∧ SH w0 w' M m :=
  (Tx.part_z N l w0.heap.size (w0.heap.size + 1) (w0.heap.size + 1) w h.bd hl h.num h.bld (by omega) h.siz (tab_below h.tab h.bel)).mono fun _ _ ⟨he, hk, hb, hbl⟩ => by subst hm hM; exact ⟨he, h.step (Nat.mod_le _ _) hk hb hbl⟩
set_option maxRecDepth 100000 in
set_option maxHeartbeats 12800000 in
theorem showTime_any (n : Nat) (w : World) (hn : n ≤ 4294967295) (htab : TabX w) : Calls Tryd.prog 29 #[.int .i64 (n : Int)] w fun e w' => e = .returned (.string (strB (timeS n))) ∧ Below w.heap.size w w' := by
  by_cases h0 : n = 0
  · subst h0
    go_enter Tryd.func29, Tryd.ntmps29
    go_wp2
    go_ret
    exact ⟨rfl, W.below_alloc _⟩
  · have hb0 : ((n : Int) == 0) = false := by simp; omega
    have k0 : Blk ((w.alloc (.cells #[.int .i64 (n : Int)] 3)).alloc (.cells #[.pointer none, .slice none 0 0] 62)) w.heap.size 3 #[.int .i64 (n : Int)] := (Blk.new _ _ _).alloc _
    have b0 : Lib.IsBuilder 62 5 (w.heap.size + 1) (w.heap.size + 1) [] ((w.alloc (.cells #[.int .i64 (n : Int)] 3)).alloc (.cells #[.pointer none, .slice none 0 0] 62)) := by
      have := Lib.fresh_isBuilder 62 5 (w.alloc (.cells #[.int .i64 (n : Int)] 3))
      simpa only [World.size_alloc] using this
    have l0 : Below w.heap.size w ((w.alloc (.cells #[.int .i64 (n : Int)] 3)).alloc (.cells #[.pointer none, .slice none 0 0] 62)) := W.below2 _ _ _
    have hw := write_any (w.heap.size + 1) (w.heap.size + 1) [] { data := #[84, 35] } _ b0 (by simp; decide) (by simp)
    have hw' := hw.mono (R' := fun e w' => ∃ z, e = .returned (.tuple #[.int .i64 z, .nilIface]) ∧ SH w w' n [84, 35]) fun e w' ⟨he, hb, hbl⟩ => ⟨_, he, ⟨k0.keep (hbl.block _ (by omega)), .inr hb, l0.trans (hbl.mono (by omega)), htab, by have := hbl.size; simp at this; omega, hn⟩⟩
    obtain ⟨l1, g1⟩ : ∃ l1, [84, 35] ++ partF (n / 86400000) [100] = l1 := ⟨_, rfl⟩
    obtain ⟨n1, f1⟩ : ∃ n1, n % 86400000 = n1 := ⟨_, rfl⟩
    obtain ⟨l2, g2⟩ : ∃ l2, l1 ++ partF (n1 / 3600000) [104] = l2 := ⟨_, rfl⟩
    obtain ⟨n2, f2⟩ : ∃ n2, n1 % 3600000 = n2 := ⟨_, rfl⟩
    obtain ⟨l3, g3⟩ : ∃ l3, l2 ++ partF (n2 / 60000) [109] = l3 := ⟨_, rfl⟩
    obtain ⟨n3, f3⟩ : ∃ n3, n2 % 60000 = n3 := ⟨_, rfl⟩
    obtain ⟨l4, g4⟩ : ∃ l4, l3 ++ partF (n3 / 1000) [115] = l4 := ⟨_, rfl⟩
    obtain ⟨n4, f4⟩ : ∃ n4, n3 % 1000 = n4 := ⟨_, rfl⟩
    obtain ⟨l5, g5⟩ : ∃ l5, l4 ++ partF (n4 / 1) [109, 115] = l5 := ⟨_, rfl⟩
    obtain ⟨n5, f5⟩ : ∃ n5, n4 % 1 = n5 := ⟨_, rfl⟩
    have HR : Hid (l5 = timeS n) := Lib.hid (by
      rw [← g5, ← g4, ← g3, ← g2, ← g1]
      unfold timeS
      rw [if_neg h0, show n4 / 1 = n % 1000 by omega, show n3 / 1000 = n / 1000 % 60 by omega, show n2 / 60000 = n / 60000 % 60 by omega, show n1 / 3600000 = n / 3600000 % 24 by omega]
      simp only [List.append_assoc])
    have p1 := part_len (n / 86400000) [100]
    have p2 := part_len (n1 / 3600000) [104]
    have p3 := part_len (n2 / 60000) [109]
    have p4 := part_len (n3 / 1000) [115]
    have z0 : ([84, 35] : List UInt8).length ≤ 1000000000000 := by simp
    have z1 : l1.length ≤ 1000000000000 := by rw [← g1, List.length_append]; simp at p1 ⊢; omega
    have z1' : l1.length ≤ 4294967310 := by rw [← g1, List.length_append]; simp at p1 ⊢; omega
    have z2' : l2.length ≤ 8589934620 := by rw [← g2, List.length_append]; simp at p2 ⊢; omega
    have z3' : l3.length ≤ 12884901930 := by rw [← g3, List.length_append]; simp at p3 ⊢; omega
    have z4' : l4.length ≤ 17179869240 := by rw [← g4, List.length_append]; simp at p4 ⊢; omega
    have HC : Hid (∀ W, SH w W n [84, 35] → Calls Tryd.prog 46 #[.int .i64 86400000, .string { data := #[100] }, .pointer (some ⟨w.heap.size, 0, none⟩), .pointer (some ⟨w.heap.size + 1, 0, none⟩)] W fun e w' => e = .returned (.tuple #[]) ∧ SH w w' n1 l1) := Lib.hid fun W h => h.part_d z0 g1 f1
    have HD : Hid (∀ W, SH w W n1 l1 → Calls Tryd.prog 46 #[.int .i64 3600000, .string { data := #[104] }, .pointer (some ⟨w.heap.size, 0, none⟩), .pointer (some ⟨w.heap.size + 1, 0, none⟩)] W fun e w' => e = .returned (.tuple #[]) ∧ SH w w' n2 l2) := Lib.hid fun W h => h.part_h (by omega) g2 f2
    have HE : Hid (∀ W, SH w W n2 l2 → Calls Tryd.prog 46 #[.int .i64 60000, .string { data := #[109] }, .pointer (some ⟨w.heap.size, 0, none⟩), .pointer (some ⟨w.heap.size + 1, 0, none⟩)] W fun e w' => e = .returned (.tuple #[]) ∧ SH w w' n3 l3) := Lib.hid fun W h => h.part_m (by omega) g3 f3
    have HG : Hid (∀ W, SH w W n3 l3 → Calls Tryd.prog 46 #[.int .i64 1000, .string { data := #[115] }, .pointer (some ⟨w.heap.size, 0, none⟩), .pointer (some ⟨w.heap.size + 1, 0, none⟩)] W fun e w' => e = .returned (.tuple #[]) ∧ SH w w' n4 l4) := Lib.hid fun W h => h.part_s (by omega) g4 f4
    have HK : Hid (∀ W, SH w W n4 l4 → Calls Tryd.prog 46 #[.int .i64 1, .string { data := #[109, 115] }, .pointer (some ⟨w.heap.size, 0, none⟩), .pointer (some ⟨w.heap.size + 1, 0, none⟩)] W fun e w' => e = .returned (.tuple #[]) ∧ SH w w' n5 l5) := Lib.hid fun W h => h.part_z (by omega) g5 f5
    have HS : Hid (∀ W, SH w W n5 l5 → Calls Tryd.prog 43 #[.pointer (some ⟨w.heap.size + 1, 0, none⟩)] W fun e w' => e = .returned (.string (strB l5)) ∧ Below w.heap.size w w') := Lib.hid fun W h => (Tryd.Builder_String_any (w.heap.size + 1) (w.heap.size + 1) l5 W h.bld h.siz).mono fun e w' ⟨he, hb⟩ => ⟨he, h.bel.trans (hb.mono (by omega))⟩
    clear g1 f1 g2 f2 g3 f3 g4 f4 g5 f5 p1 p2 p3 p4 z0 z1 z1' z2' z3' z4' hw k0 b0 l0 htab h0
    go_enter Tryd.func29, Tryd.ntmps29
    go_wp2_with first
      | (go_at_call 41; refine hw'.mono ?_; rintro e w1 ⟨z, rfl, h1⟩; have H1 := Lib.hid h1; clear h1 hw')
      | (go_at_call 46; refine (HC.out _ H1.out).mono ?_; rintro e w2 ⟨rfl, h2⟩; have H2 := Lib.hid h2; clear h2 HC H1)
      | (go_at_call 46; refine (HD.out _ H2.out).mono ?_; rintro e w3 ⟨rfl, h3⟩; have H3 := Lib.hid h3; clear h3 HD H2)
      | (go_at_call 46; refine (HE.out _ H3.out).mono ?_; rintro e w4 ⟨rfl, h4⟩; have H4 := Lib.hid h4; clear h4 HE H3)
      | (go_at_call 46; refine (HG.out _ H4.out).mono ?_; rintro e w5 ⟨rfl, h5⟩; have H5 := Lib.hid h5; clear h5 HG H4)
      | (go_at_call 46; refine (HK.out _ H5.out).mono ?_; rintro e w6 ⟨rfl, h6⟩; have H6 := Lib.hid h6; clear h6 HK H5)
      | (go_at_call 43; refine (HS.out _ H6.out).mono ?_; rintro e w7 ⟨rfl, h7⟩; have H7 := Lib.hid h7; clear h7 HS H6)
    go_ret
    exact ⟨by rw [HR.out]; rfl, H7.out⟩
end Go.Proofs.YtckjnlonijodcaaDoor.Tx
