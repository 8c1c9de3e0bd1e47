/-
  What a frame tells, by the reference: the same. Conditions: the bytes read, within the reach.
-/
import Derived.Test.YtdncdmibmopilaaOpen3
import Derived.Test.YtdncdmibmopilaaCrc2
import Derived.Deep.RegionHeld3
import Derived.Deep.RegionLaw
import Derived.Deep.AppendLies
import Derived.BigRegion
import Derived.Outline
namespace Go.Proofs.Ytdncdmibmopilaa.Bus
open Go.RowKit Go.Proofs.Ytdncdmibmopilaa.W Go.Proofs.Ytdncdmibmopilaa.Ints Go.Proofs.Ytdncdmibmopilaa.Byt Go.Proofs.Ytdncdmibmopilaa.Num

abbrev toldV (s q : Int) (v : Value) : Value := .agg #[.int .i64 s, .int .i64 q, v]
def FreshT2 (w w' : World) (e : Ending) (F : (Int × Int × List Int) × Int) : Prop :=
  ∃ A c, e = .returned (.tuple #[toldV F.1.1 F.1.2.1 (.slice A F.1.2.2.length c), .int .i64 F.2]) ∧ w'.ownsRow w.heap.size 3 1 (.slice A F.1.2.2.length c) F.1.2.2.length (ints F.1.2.2) ∧ Below w.heap.size w w'

theorem fault_t2 {w w' : World} (hb : Below w.heap.size w w') (k : Int) : FreshT2 w w' (.returned (.tuple #[toldV 0 0 (.slice none 0 0), .int .i64 k])) ((0, 0, []), k) :=
  ⟨none, 0, rfl, World.ownsRow_nil _ _ _ _, hb⟩
theorem three {w W1 : World} {g : Nat} {t : TypeId} {a b c : Value} (h : Blk W1 g t #[a, b, c]) (hg : w.heap.size ≤ g) (B : Below w.heap.size w W1) (u v x : Value) :
    Blk (((W1.setCell ⟨g, 0, none⟩ u).setCell ⟨g, 1, none⟩ v).setCell ⟨g, 2, none⟩ x) g t #[u, v, x] ∧ Below w.heap.size w (((W1.setCell ⟨g, 0, none⟩ u).setCell ⟨g, 1, none⟩ v).setCell ⟨g, 2, none⟩ x) :=
  ⟨by simpa using ((h.put 0 u).put 1 v).put 2 x, ((B.setCell (p := ⟨g, 0, none⟩) hg _).setCell (p := ⟨g, 1, none⟩) hg _).setCell (p := ⟨g, 2, none⟩) hg _⟩
theorem grownBy_setAt (W : World) (b i : Nat) (v : Value) : W.grownBy (W.setCell ⟨b, i, none⟩ v) (some b) :=
  ⟨rfl, rfl, rfl, (KeepsWalks.setCell W _ v).size, fun k _ hk => Below.heap_setCell _ _ _ k (fun e => hk (by rw [e]))⟩
theorem CRC16_any' (A : Option Addr) (n c : Nat) (bs : List UInt8) (w : World) (hr : Rd w 1 A n (byts bs)) (hn : n ≤ maxLen) :
    Calls Try.prog 37 #[.slice A n c] w fun e w' => e = .returned (.int .i64 (crc bs : Int)) ∧ w' = w := by
  refine (CRC16_any A n c bs w hr hn).mono ?_
  rintro e w' ⟨rfl, rfl⟩
  exact ⟨rfl, rfl⟩

set_option maxRecDepth 100000 in
set_option maxHeartbeats 6400000 in
theorem OpenR_any (A : Option Addr) (n c : Nat) (bs : List UInt8) (w : World) (hr : Rd w 1 A n (byts bs)) (hnc : n ≤ c) (hc : c ≤ 140737488351232) :
    Calls Try.prog 14 #[.slice A n c] w fun e w' => FreshT2 w w' e (openF bs) := by
  obtain ⟨i0, hi0, hz0, hz1, hz2⟩ := info_parts int_info
  have hl := brd_len hr
  generalize hT : openF bs = T
  have HT := Lib.hid hT
  clear hT
  have cb := (Blk.new w 33 #[.int .i64 0, .int .i64 0, .slice none 0 0]).cell
  by_cases h5 : n < 5
  · have hF : T = ((0, 0, []), 4) := by rw [← HT.out]; unfold openF; rw [if_pos (.inl (by omega))]
    subst hF
    go_enter Try.func14, Try.ntmps14
    go_wp2
    refine bodyPost_ret (v := .tuple #[toldV 0 0 (.slice none 0 0), .int .i64 4]) ?_ rfl (fault_t2 (below_alloc _) 4)
    simp [results, Try.results14, go_sem, cb]
  · obtain ⟨b, o, rfl, hb⟩ := brd_at hr (by omega)
    have g0 := hb 0 (by omega)
    have g1 := hb 1 (by omega)
    have g2 := hb 2 (by omega)
    have gx := hb (n - 2) (by omega)
    have gy := hb (n - 1) (by omega)
    rw [Nat.add_zero] at g0
    have u0 : bAt bs 0 < 256 := (bs.getD 0 0).toNat_lt
    have u1 : bAt bs 1 < 256 := (bs.getD 1 0).toNat_lt
    have u2 : bAt bs 2 < 256 := (bs.getD 2 0).toNat_lt
    obtain ⟨p0, e0⟩ : ∃ p, p = bAt bs 0 := ⟨_, rfl⟩
    obtain ⟨p1, e1⟩ : ∃ p, p = bAt bs 1 := ⟨_, rfl⟩
    obtain ⟨m, e2⟩ : ∃ p, p = bAt bs 2 := ⟨_, rfl⟩
    rw [show (bs.getD 0 0).toNat = p0 from e0.symm] at g0
    rw [show (bs.getD 1 0).toNat = p1 from e1.symm] at g1
    rw [show (bs.getD 2 0).toNat = m from e2.symm] at g2
    rw [← e0] at u0
    rw [← e1] at u1
    rw [← e2] at u2
    have bl := lt_of_cell g0
    have E0 := Lib.hid e0
    have E1 := Lib.hid e1
    have E2 := Lib.hid e2
    have HB := Lib.hid hb
    have HR := Lib.hid hr
    clear e0 e1 e2 hb hr
    by_cases hsz : n ≠ 5 + 2 * m
    · have hF : T = ((0, 0, []), 4) := by rw [← HT.out]; unfold openF; rw [if_pos (.inr (by rw [hl, ← E2.out]; exact hsz))]
      subst hF
      by_cases hpar : (((n : Int) - 5) % 2 != 0) = true
      · go_enter Try.func14, Try.ntmps14
        go_wp2
        refine bodyPost_ret (v := .tuple #[toldV 0 0 (.slice none 0 0), .int .i64 4]) ?_ rfl (fault_t2 (below_alloc _) 4)
        simp [results, Try.results14, go_sem, cb]
      · rw [Bool.not_eq_true] at hpar
        have tq : (((n : Int) - 5) / 2 != (m : Int)) = true := by simp at hpar ⊢; omega
        have tc : decide ((n : Int) < 5) = false := by simp; omega
        go_enter Try.func14, Try.ntmps14
        go_wp2
        refine bodyPost_ret (v := .tuple #[toldV 0 0 (.slice none 0 0), .int .i64 4]) ?_ rfl (fault_t2 (below_alloc _) 4)
        simp [results, Try.results14, go_sem, cb]
    · have hsz2 := Lib.hid (show n = 5 + 2 * m by omega)
      have ta : (((n : Int) - 5) % 2 != 0) = false := by simp; omega
      have tb : (((n : Int) - 5) / 2 != (m : Int)) = false := by simp; omega
      have tc : decide ((n : Int) < 5) = false := by simp; omega
      clear hsz
      have ht : Rd w 1 (some ⟨b, o, none⟩) (n - 2) (byts (bs.take (n - 2))) := by rw [← take_byts]; exact rd_take HR.out _ (by omega)
      have HTk := Lib.hid ht
      have hk := crc_lt (bs.take (n - 2))
      obtain ⟨x, ex⟩ : ∃ x, x = bs.getD (n - 2) 0 := ⟨_, rfl⟩
      obtain ⟨y, ey⟩ : ∃ x, x = bs.getD (n - 1) 0 := ⟨_, rfl⟩
      rw [← ex] at gx
      rw [← ey] at gy
      have hx := x.toNat_lt
      have hy := y.toNat_lt
      have hS : ∀ q, Calls Try.prog 37 #[.slice (some ⟨b, o, none⟩) (n - 2) c] ((w.alloc (.cells #[.int .i64 0, .int .i64 0, .slice none 0 0] 33)).drewN q) fun e w' => e = .returned (.int .i64 (crc (bs.take (n - 2)) : Int)) ∧ w' = (w.alloc (.cells #[.int .i64 0, .int .i64 0, .slice none 0 0] 33)).drewN q := fun q =>
        CRC16_any' (some ⟨b, o, none⟩) (n - 2) c (bs.take (n - 2)) _ ((HTk.out.alloc _).drewN _) (by unfold maxLen; omega)
      obtain ⟨K, eK⟩ : ∃ K, K = crc (bs.take (n - 2)) := ⟨_, rfl⟩
      rw [← eK] at hS hk
      have HS := Lib.hid hS
      have EX := Lib.hid ex
      have EY := Lib.hid ey
      have EK := Lib.hid eK
      clear ex ey eK hS HTk
      have hS0 : ¬(n < 5 ∨ n ≠ 5 + 2 * bAt bs 2) := by rw [← E2.out, hsz2.out]; omega
      have en : n - 2 + 1 = n - 1 := by omega
      have HS0 := Lib.hid hS0
      have HEN := Lib.hid en
      clear hS0 en
      go_enter Try.func14, Try.ntmps14
      go_wp2
      go_quiet (first | (go_at_call 37; exact Calls.quiet_of_same (HS.out _)))
      generalize hW1 : World.drewN _ nq = W1
      have bx : Blk W1 w.heap.size 33 #[.int .i64 0, .int .i64 0, .slice none 0 0] := by rw [← hW1]; exact (Blk.new w _ _).drewN nq
      have B1 : Below w.heap.size w W1 := by rw [← hW1]; exact below_drewN (below_alloc _) _
      have z1 : W1.heap.size = w.heap.size + 1 := by rw [← hW1]; exact World.size_alloc _ _
      clear hW1 HS
      have c1 := bx.cell
      have f1 := bx.frozen
      have q0 := (B1.cell (p := ⟨b, o, none⟩) bl).trans g0
      have q1 := (B1.cell (p := ⟨b, o + 1, none⟩) bl).trans g1
      have q2 := (B1.cell (p := ⟨b, o + 2, none⟩) bl).trans g2
      clear gx gy g0 g1 g2 cb
      by_cases hxy : ((K : Int) != (x.toNat : Int) + 256 * (y.toNat : Int)) = true
      · have hF : T = ((0, 0, []), 17) := by
          rw [← HT.out]; unfold openF
          rw [hl, if_neg HS0.out, if_pos (by simp only [bAt]; rw [HEN.out, ← EX.out, ← EY.out, ← EK.out]; simp at hxy; omega)]
        subst hF
        go_wp2
        obtain ⟨bX, BX⟩ := three bx (Nat.le_refl _) B1 (.int .i64 0) (.int .i64 0) (.slice none 0 0)
        refine bodyPost_ret (v := .tuple #[toldV 0 0 (.slice none 0 0), .int .i64 17]) ?_ rfl (fault_t2 BX 17)
        have cX := bX.cell
        simp [results, Try.results14, go_sem, cX]
      · rw [Bool.not_eq_true] at hxy
        have hX0 : ¬(((bAt bs (n - 2) : Int) + 256 * (bAt bs (n - 2 + 1) : Int)) ≠ (crc (bs.take (n - 2)) : Int)) := by simp only [bAt]; rw [HEN.out, ← EX.out, ← EY.out, ← EK.out]; simp at hxy; omega
        have HX0 := Lib.hid hX0
        clear hX0
        by_cases h247 : 247 < p0
        · have hF : T = ((0, 0, []), 3) := by
            rw [← HT.out]; unfold openF
            rw [hl, if_neg HS0.out, if_neg HX0.out, if_pos (by rw [← E0.out]; exact h247)]
          subst hF
          go_wp2
          obtain ⟨bX, BX⟩ := three bx (Nat.le_refl _) B1 (.int .i64 0) (.int .i64 0) (.slice none 0 0)
          refine bodyPost_ret (v := .tuple #[toldV 0 0 (.slice none 0 0), .int .i64 3]) ?_ rfl (fault_t2 BX 3)
          have cX := bX.cell
          simp [results, Try.results14, go_sem, cX]
        · by_cases h60 : 60 < m
          · have hF : T = ((0, 0, []), 4) := by
              rw [← HT.out]; unfold openF
              rw [hl, if_neg HS0.out, if_neg HX0.out, if_neg (by rw [← E0.out]; exact h247), if_pos (by rw [← E2.out]; exact h60)]
            subst hF
            go_wp2
            obtain ⟨bX, BX⟩ := three bx (Nat.le_refl _) B1 (.int .i64 0) (.int .i64 0) (.slice none 0 0)
            refine bodyPost_ret (v := .tuple #[toldV 0 0 (.slice none 0 0), .int .i64 4]) ?_ rfl (fault_t2 BX 4)
            have cX := bX.cell
            simp [results, Try.results14, go_sem, cX]
          · have hF : T = (((p0 : Int), (p1 : Int), told bs m), 0) := by
              rw [← HT.out]; unfold openF
              rw [hl, if_neg HS0.out, if_neg HX0.out, if_neg (by rw [← E0.out]; exact h247), if_neg (by rw [← E2.out]; exact h60), ← E0.out, ← E1.out, ← E2.out]
            have HF := Lib.hid hF
            clear hF
            go_wp2
            go_region
            go_wp2
            rw [hxy]
            have b5a := Blk.new W1 33 #[.int .i64 (p0 : Int), .int .i64 (p1 : Int), .slice none 0 0]
            rw [z1] at b5a
            have b5 : Blk (W1.alloc (.cells #[.int .i64 (p0 : Int), .int .i64 (p1 : Int), .slice none 0 0] 33)).drew (w.heap.size + 1) 33 #[.int .i64 (p0 : Int), .int .i64 (p1 : Int), .slice none 0 0] := b5a
            have bx0 : Blk (W1.alloc (.cells #[.int .i64 (p0 : Int), .int .i64 (p1 : Int), .slice none 0 0] 33)).drew w.heap.size 33 #[.int .i64 0, .int .i64 0, .slice none 0 0] := bx.alloc _
            have B0 := (B1.alloc (by omega) (.cells #[.int .i64 (p0 : Int), .int .i64 (p1 : Int), .slice none 0 0] 33)).drew
            have z0 : (W1.alloc (.cells #[.int .i64 (p0 : Int), .int .i64 (p1 : Int), .slice none 0 0] 33)).drew.heap.size = w.heap.size + 2 := by
              show (W1.alloc _).heap.size = _
              rw [World.size_alloc]; omega
            generalize World.drew (World.alloc W1 _) = W0 at b5 bx0 B0 z0 ⊢
            have H5 := Lib.hid b5
            have HX := Lib.hid bx0
            have HB0 := Lib.hid B0
            clear b5a b5 bx0 B0 bx B1 z1 c1 f1 q0 q1 q2 hxy hx hy hk EX EY EK HS0 HEN HX0 ta tb tc
            go_loopw [6] (fun i wr => ∃ k : Nat, k ≤ m ∧ i = .int .i64 ((3 + 2 * k : Nat) : Int) ∧ ∃ B d, Hid (wr.ownsRow (w.heap.size + 2) 3 1 (.slice B k d) k (ints (told bs k))) ∧ Hid (Blk wr w.heap.size 33 #[.int .i64 0, .int .i64 0, .slice none 0 0]) ∧ Hid (Blk wr (w.heap.size + 1) 33 #[.int .i64 (p0 : Int), .int .i64 (p1 : Int), .slice B k d]) ∧ Hid (Below w.heap.size w wr) ∧ w.heap.size + 2 ≤ wr.heap.size) (fun i _ => n - (intOf i).toNat)
            case atStart => exact ⟨0, Nat.zero_le _, by simp, none, 0, World.ownsRow_nil _ _ _ _, HX, H5, HB0, by omega⟩
            case round =>
              clear H5 HX HB0 z0
              obtain ⟨k, hk, rfl, B, d, HO, HX, H5, HB0, hz⟩ := hrel
              by_cases hlt : k < m
              · have hm2 : 3 + 2 * k + 1 < n := by have := hsz2.out; omega
                have hm3 : ((3 + 2 * k : Nat) : Int) < (n : Int) - 2 := by have := hsz2.out; omega
                have y0 := (HB0.out.cell (p := ⟨b, o + (3 + 2 * k), none⟩) bl).trans (HB.out _ (by omega))
                have y1 := (HB0.out.cell (p := ⟨b, o + (3 + 2 * k + 1), none⟩) bl).trans (HB.out _ hm2)
                obtain ⟨r0, er0⟩ : ∃ r, r = bs.getD (3 + 2 * k) 0 := ⟨_, rfl⟩
                obtain ⟨r1, er1⟩ : ∃ r, r = bs.getD (3 + 2 * k + 1) 0 := ⟨_, rfl⟩
                have ET : Hid (tellW bs k = (r0.toNat : Int) + 256 * (r1.toNat : Int)) := by rw [er0, er1]; exact (rfl : tellW bs k = _)
                rw [← er0] at y0
                rw [← er1] at y1
                clear er0 er1
                have hr0 := r0.toNat_lt
                have hr1 := r1.toNat_lt
                have cB : wr.cell? ⟨w.heap.size + 1, 2, none⟩ = some (.slice B k d) := H5.out.cell 2
                have fB : wr.frozen? ⟨w.heap.size + 1, 2, none⟩ = false := H5.out.frozen 2
                obtain ⟨j, hj⟩ : ∃ j, j = 3 + 2 * k := ⟨_, rfl⟩
                rw [← hj] at hm2 hm3 y0 y1
                rw [← hj]
                have HJ := Lib.hid hj
                have hm4 : (j : Int) + 1 < (n : Int) := by omega
                clear hj
                have hva : ∀ u : Value, (wr.alloc (.cells #[u] 3)).cell? ⟨w.heap.size + 1, 2, none⟩ = some (.slice B k d) := fun u => (H5.out.alloc _).cell 2
                have yA0 : ∀ u : Value, ((wr.alloc (.cells #[u] 3)).drew).cell? ⟨b, o + j, none⟩ = some (.int .u8 (r0.toNat : Int)) := fun u => ((below_alloc (w := wr) _).drew.cell (p := ⟨b, o + j, none⟩) (by simp only; omega)).trans y0
                have yA1 : ∀ u : Value, ((wr.alloc (.cells #[u] 3)).drew).cell? ⟨b, o + (j + 1), none⟩ = some (.int .u8 (r1.toNat : Int)) := fun u => ((below_alloc (w := wr) _).drew.cell (p := ⟨b, o + (j + 1), none⟩) (by simp only; omega)).trans y1
                have YA0 := Lib.hid yA0
                have YA1 := Lib.hid yA1
                clear yA0 yA1
                have hfar5 : (Value.slice B k d).ownBlock ≠ some (w.heap.size + 1) := fun e => by have := (HO.out.lt _ e).1; omega
                have hfarb : (Value.slice B k d).ownBlock ≠ some b := fun e => by have := (HO.out.lt _ e).1; omega
                have n0 := World.new_ne wr _ y0
                simp only at n0
                have hbg : b ≠ w.heap.size + 1 := by omega
                go_wp2_with fail
                have v0 : IntKind.i64.wrap (r0.toNat : Int) = (r0.toNat : Int) := wrap_i64_nat _ (by omega)
                have v1 : IntKind.i64.wrap (r1.toNat : Int) = (r1.toNat : Int) := wrap_i64_nat _ (by omega)
                have v2 : IntKind.i64.wrap (256 * (r1.toNat : Int)) = 256 * (r1.toNat : Int) := wrap_i64_nat (256 * r1.toNat) (by omega)
                have v3 : IntKind.i64.wrap ((r0.toNat : Int) + 256 * (r1.toNat : Int)) = (r0.toNat : Int) + 256 * (r1.toNat : Int) := wrap_i64_nat (r0.toNat + 256 * r1.toNat) (by omega)
                have v4 : IntKind.i64.wrap ((j : Int) + 1) = (j : Int) + 1 := wrap_i64_nat (j + 1) (by omega)
                have i1 : (0 : Int) ≤ (j : Int) := by omega
                have i2 : (j : Int) < (n : Int) := by omega
                have i3 : (0 : Int) ≤ (j : Int) + 1 := by omega
                have i4 : ((j : Int) + 1).toNat = j + 1 := by omega
                go_region_law ((refine step_append_lies _ (by rfl) _ _ _ (by rfl) (w.heap.size + 2) 3 i0 _ 1 8 Try.underlying22 hi0 hz0 hz1 hz2 rfl (by omega) (.slice B k d) k (ints (told bs k)) (by rfl) ((HO.out.alloc _).drew) ⟨wr.heap.size, 0, none⟩ 1 1 [.int .i64 ((r0.toNat : Int) + 256 * (r1.toNat : Int))] (by rfl) (by rfl) (World.news_of_block (cs := #[.int .i64 ((r0.toNat : Int) + 256 * (r1.toNat : Int))]) (t := 3) (fr := (0, 0)) (heap_alloc_new wr _)) (by simp [Value.oneCell']) (by omega) (by unfold maxLen; omega) (by omega) (by simp; omega) (wr.heap.size + 1) (by simp) ?_; intro gg cap w1 hown1 hgrow hat hlt1; have yw0 : w1.cell? ⟨b, o + j, none⟩ = some (.int .u8 (r0.toNat : Int)) := (hgrow.cell_far ⟨b, o + j, none⟩ (by simp; omega) (Ne.symm hfarb)).trans (YA0.out _); have yw1 : w1.cell? ⟨b, o + (j + 1), none⟩ = some (.int .u8 (r1.toNat : Int)) := (hgrow.cell_far ⟨b, o + (j + 1), none⟩ (by simp; omega) (Ne.symm hfarb)).trans (YA1.out _); have b5w := ((H5.out.alloc (.cells #[.int .i64 ((r0.toNat : Int) + 256 * (r1.toNat : Int))] 3)).drew).grown hgrow (Ne.symm hfar5); have cw : w1.cell? ⟨w.heap.size + 1, 2, none⟩ = some (.slice B k d) := b5w.cell 2; have fw : w1.frozen? ⟨w.heap.size + 1, 2, none⟩ = false := b5w.frozen 2; have B5W := Lib.hid b5w; clear b5w))
                all_goals
                  have BW : Hid (Below w.heap.size w w1) := (HB0.out.alloc (by omega) (.cells #[.int .i64 ((r0.toNat : Int) + 256 * (r1.toNat : Int))] 3)).drew.trans (Grow.below hgrow (by simp; omega) (fun g hg => by have := (HO.out.lt g hg).1; omega))
                  have HXW := Lib.hid (((HX.out.alloc (.cells #[.int .i64 ((r0.toNat : Int) + 256 * (r1.toNat : Int))] 3)).drew).grown hgrow (fun e => by have := (HO.out.lt _ e.symm).1; omega))
                  have hgg := (hown1.lt gg rfl).1
                  have HR2 := Lib.hid (hown1.kept (grownBy_setAt w1 (w.heap.size + 1) 2 (.slice (some ⟨gg, 0, none⟩) (k + 1) cap)) (.inr (by simp [Value.ownBlock]; omega)))
                  have HX2 := Lib.hid (HXW.out.far (p := ⟨w.heap.size + 1, 2, none⟩) (by simp) (.slice (some ⟨gg, 0, none⟩) (k + 1) cap))
                  have H52 := Lib.hid (B5W.out.put 2 (.slice (some ⟨gg, 0, none⟩) (k + 1) cap))
                  have B2 := Lib.hid (BW.out.setCell (p := ⟨w.heap.size + 1, 2, none⟩) (by simp) (.slice (some ⟨gg, 0, none⟩) (k + 1) cap))
                  have hw1s := BW.out.size
                  have hw2s := hgrow.size
                  simp only [World.size_drew, World.size_alloc] at hw2s
                  clear hgrow hown1 yw0 yw1 cw fw BW HXW B5W hat
                  go_wp2
                  have hrel : ∃ k_1 : Nat, k_1 ≤ m ∧ (Value.int .i64 ((j : Int) + 2)) = .int .i64 ((3 + 2 * k_1 : Nat) : Int) ∧ ∃ B d, Hid ((w1.setCell ⟨w.heap.size + 1, 2, none⟩ (.slice (some ⟨gg, 0, none⟩) (k + 1) cap)).ownsRow (w.heap.size + 2) 3 1 (.slice B k_1 d) k_1 (ints (told bs k_1))) ∧ Hid (Blk (w1.setCell ⟨w.heap.size + 1, 2, none⟩ (.slice (some ⟨gg, 0, none⟩) (k + 1) cap)) w.heap.size 33 #[.int .i64 0, .int .i64 0, .slice none 0 0]) ∧ Hid (Blk (w1.setCell ⟨w.heap.size + 1, 2, none⟩ (.slice (some ⟨gg, 0, none⟩) (k + 1) cap)) (w.heap.size + 1) 33 #[.int .i64 (p0 : Int), .int .i64 (p1 : Int), .slice B k_1 d]) ∧ Hid (Below w.heap.size w (w1.setCell ⟨w.heap.size + 1, 2, none⟩ (.slice (some ⟨gg, 0, none⟩) (k + 1) cap))) ∧ w.heap.size + 2 ≤ (w1.setCell ⟨w.heap.size + 1, 2, none⟩ (.slice (some ⟨gg, 0, none⟩) (k + 1) cap)).heap.size :=
                    ⟨k + 1, by omega, by have := HJ.out; simp; omega, _, _, by rw [told_succ, show ints (told bs k ++ [tellW bs k]) = ints (told bs k) ++ [.int .i64 (tellW bs k)] from by simp, ET.out]; exact HR2.out, HX2.out, H52.out, B2.out, by simp; omega⟩
                  go_roundw
                  case rel => exact hrel
                  case measure => simp [intOf]; omega
              · obtain rfl : k = m := by omega
                have hm3 : ¬((3 + 2 * k : Nat) : Int) < (n : Int) - 2 := by have := hsz2.out; omega
                have cX := HX.out.cell
                have fX := HX.out.frozen
                have c5 := H5.out.cell
                obtain ⟨bX, BX⟩ := three HX.out (Nat.le_refl _) HB0.out (.int .i64 (p0 : Int)) (.int .i64 (p1 : Int)) (.slice B k d)
                have KX := Lib.hid bX
                have KB := Lib.hid BX
                have hr2 := HO.out.kept (grownBy_setAt wr w.heap.size 0 (.int .i64 (p0 : Int))) (.inr (fun e => by have := (HO.out.lt _ e).1; omega))
                have hr3 := hr2.kept (grownBy_setAt _ w.heap.size 1 (.int .i64 (p1 : Int))) (.inr (fun e => by have := (HO.out.lt _ e).1; omega))
                have hr4 := hr3.kept (grownBy_setAt _ w.heap.size 2 (.slice B k d)) (.inr (fun e => by have := (HO.out.lt _ e).1; omega))
                have HR4 := Lib.hid hr4
                clear bX BX hr2 hr3 hr4
                go_wp2
                rw [HF.out]
                refine bodyPost_ret (v := .tuple #[toldV (p0 : Int) (p1 : Int) (.slice B k d), .int .i64 0]) ?_ rfl ⟨B, d, ?_, ?_, KB.out⟩
                · have cX := KX.out.cell
                  simp [results, Try.results14, go_sem, cX]
                · simp only [told_len]
                · simp only [told_len]
                  exact own_weaken HR4.out (by omega)
end Go.Proofs.Ytdncdmibmopilaa.Bus
