/-
  The walk of the law PairSeamless. Conditions: the arguments are Go's ints.
-/
import Derived.Test.YtlccpnloankloaaSml1
import Derived.Deep.RegionWith
import Derived.Deep.DeepCutAuto
namespace Go.Proofs.Ytlccpnloankloaa.Pair
open Go.RowKit Go.Proofs.Ytlccpnloankloaa.W Go.Proofs.Ytlccpnloankloaa.Ints Go.Proofs.Ytlccpnloankloaa.Keep

theorem sm_len (n : Nat) : (sm n).length = 2 := rfl
theorem stand_a {p : Int} {cyc : Int} (h1 : 1 ≤ p) (h2 : p ≤ 1000) (h3 : 0 ≤ cyc) (h4 : cyc ≤ 999999999) : standB 0 true 0 cyc 2 0 p = true := by
  rw [standB_iff]; simp; omega
theorem started (me : Int) (hme : me = 0 ∨ me = 1) {p : Int} (h1 : 1 ≤ p) (h2 : p ≤ 1000) (zs : List Int) : sidedF [] me p zs 2 = (⟨me, me == 0, 0, 0, zs, 0, p⟩, 0) := by
  have : 0 ≤ me ∧ me ≤ 1 := by omega
  simp [sidedF, h1, h2, this]
theorem stand_iff (me : Int) (act : Bool) (term cyc sil p : Int) (hme : me = 0 ∨ me = 1) (h1 : 1 ≤ p) (h2 : p ≤ 1000) (h3 : 0 ≤ cyc) (h4 : cyc ≤ 999999999) (h5 : 0 ≤ term) (h6 : term ≤ 1000000) (h7 : 0 ≤ sil) (h8 : sil < p) (h9 : act = true → sil = 0) : standB me act term cyc 2 sil p = true := by
  rw [standB_iff]
  have : 0 ≤ me ∧ me ≤ 1 := by omega
  simp [h1, h2, h3, h4, h5, h6, h7, this]
  refine ⟨by omega, fun h => ?_⟩
  have := h9 h
  omega
theorem doneC {me : Int} (hme : me = 0 ∨ me = 1) {term cyc p : Int} {zs ys : List Int} (h1 : 1 ≤ p) (h2 : p ≤ 1000) (h3 : 0 ≤ cyc) (h4 : cyc < 999999999) (h5 : 0 ≤ term) (h6 : term ≤ 1000000) :
    cycledF [] ⟨me, true, term, cyc, zs, 0, p⟩ 2 ys 2 = (⟨me, true, term, cyc + 1, ys, 0, p⟩, 0) := by
  have h := stand_iff me true term cyc 0 p hme h1 h2 h3 (by omega) h5 h6 (by omega) (by omega) (fun _ => rfl)
  simp [cycledF, SD.ok, h]
  omega
theorem sentC {term cyc p : Int} {zs : List Int} (h1 : 1 ≤ p) (h2 : p ≤ 1000) (h3 : 0 ≤ cyc) (h4 : cyc ≤ 999999999) (h5 : 0 ≤ term) (h6 : term ≤ 1000000) :
    sentF [] ⟨0, true, term, cyc, zs, 0, p⟩ 2 = (⟨0, term, cyc, zs⟩, 0) := by
  have h := stand_iff 0 true term cyc 0 p (.inl rfl) h1 h2 h3 h4 h5 h6 (by omega) (by omega) (fun _ => rfl)
  simp [sentF, SD.ok, h]
theorem heardC {cyc p : Int} {zs ys : List Int} (h1 : 1 ≤ p) (h2 : p ≤ 1000) (h3 : 0 ≤ cyc) (h4 : cyc < 999999999) :
    heededF [] ⟨1, false, 0, cyc, zs, 0, p⟩ 2 0 0 (cyc + 1) ys 2 = (⟨1, false, 0, cyc + 1, ys, 0, p⟩, 0) := by
  have h := stand_iff 1 false 0 cyc 0 p (.inr rfl) h1 h2 h3 (by omega) (by omega) (by omega) (by omega) (by omega) (fun h => by cases h)
  have ht : toldB 0 0 (cyc + 1) 2 = true := by rw [toldB_iff]; omega
  simp [heededF, SD.ok, h, ht, oldP]
  omega
theorem waitC {cyc sil p : Int} {zs : List Int} (h1 : 1 ≤ p) (h2 : p ≤ 1000) (h3 : 0 ≤ cyc) (h4 : cyc ≤ 999999999) (h7 : 0 ≤ sil) (h8 : sil < p) :
    waitedF [] ⟨1, false, 0, cyc, zs, sil, p⟩ 2 = if sil + 1 < p then (⟨1, false, 0, cyc, zs, sil + 1, p⟩, 0) else (⟨1, true, 1, cyc, zs, 0, p⟩, 0) := by
  have h := stand_iff 1 false 0 cyc sil p (.inr rfl) h1 h2 h3 h4 (by omega) (by omega) h7 h8 (fun h => by cases h)
  simp [waitedF, SD.ok, h]
theorem below_step {w2 W w' : World} (h : Hid (Below w2.heap.size w2 W)) (hb : Below W.heap.size W w') : Below w2.heap.size w2 w' := h.out.trans (hb.mono h.out.size)
theorem FreshS.rd {w w' : World} {e : Ending} {F : SD (List Int) × Int} (h : FreshS w w' e F) :
    ∃ A c, e = .returned (.tuple #[(F.1.set (Value.slice A F.1.img.length c)).val, .int .i64 F.2]) ∧ Rd w' 1 A F.1.img.length (ints F.1.img) ∧ Below w.heap.size w w' ∧ ∀ a, A = some a → w.heap.size ≤ a.block ∧ a.block < w'.heap.size := by
  obtain ⟨A, c, he, ho, hb⟩ := h
  obtain ⟨A', c', he', _, _, _, hr⟩ := own_shape ho
  injection he' with ea _ ec
  subst ea ec
  exact ⟨A, c, he, Rd.own ho, hb, hr⟩

theorem grownBy_setAt (W : World) (b i : Nat) (v : Value) : W.grownBy (W.setCell ⟨b, i, none⟩ v) (some b) :=
  ⟨rfl, rfl, rfl, by simp [World.setCell], fun k _ hk => Below.heap_setCell _ _ _ k (fun e => hk (by rw [e]))⟩
theorem grow7 (w : World) (g : Nat) (a b c d e f h : Value) : w.grownBy (((((((w.setCell ⟨g, 0, none⟩ a).setCell ⟨g, 1, none⟩ b).setCell ⟨g, 2, none⟩ c).setCell ⟨g, 3, none⟩ d).setCell ⟨g, 4, none⟩ e).setCell ⟨g, 5, none⟩ f).setCell ⟨g, 6, none⟩ h) (some g) := by
  refine Grow.trans (Grow.trans (Grow.trans (Grow.trans (Grow.trans (Grow.trans (grownBy_setAt w g 0 a) (grownBy_setAt _ g 1 b) ?_) (grownBy_setAt _ g 2 c) ?_) (grownBy_setAt _ g 3 d) ?_) (grownBy_setAt _ g 4 e) ?_) (grownBy_setAt _ g 5 f) ?_) (grownBy_setAt _ g 6 h) ?_
  all_goals exact fun _ _ => .inl rfl
theorem blk7 {w : World} {g : Nat} {t : TypeId} {a0 a1 a2 a3 a4 a5 a6 : Value} (k : Blk w g t #[a0, a1, a2, a3, a4, a5, a6]) (a b c d e f h : Value) :
    Blk (((((((w.setCell ⟨g, 0, none⟩ a).setCell ⟨g, 1, none⟩ b).setCell ⟨g, 2, none⟩ c).setCell ⟨g, 3, none⟩ d).setCell ⟨g, 4, none⟩ e).setCell ⟨g, 5, none⟩ f).setCell ⟨g, 6, none⟩ h) g t #[a, b, c, d, e, f, h] := by
  simpa using ((((((k.put 0 a).put 1 b).put 2 c).put 3 d).put 4 e).put 5 f).put 6 h
set_option maxRecDepth 100000 in
set_option maxHeartbeats 6400000 in
theorem walk_Seamless (H : Type) (_enc : TypeId × Value → H) (w : World) (pt : Int) (hpt : (Lit.int .i64 pt).wf = true) (fi : Int) (hfi : (Lit.int .i64 fi).wf = true) (re : Int) (hre : (Lit.int .i64 re).wf = true) :
    Calls Try.prog 10 #[.int .i64 pt, .int .i64 fi, .int .i64 re] w fun e w' => e = .returned (.bool true) ∧ Below w.heap.size w w' := by
  have hp : -9223372036854775808 ≤ pt ∧ pt ≤ 9223372036854775807 := by simpa [Lit.wf, IntKind.min, IntKind.max, IntKind.signed, IntKind.bits] using hpt
  have hf : -9223372036854775808 ≤ fi ∧ fi ≤ 9223372036854775807 := by simpa [Lit.wf, IntKind.min, IntKind.max, IntKind.signed, IntKind.bits] using hfi
  have hr : -9223372036854775808 ≤ re ∧ re ≤ 9223372036854775807 := by simpa [Lit.wf, IntKind.min, IntKind.max, IntKind.signed, IntKind.bits] using hre
  clear hpt hfi hre
  have hv := pick_lt (n := pt) (m := 20) (by omega)
  have hn := pick_lt (n := fi) (m := 60) (by omega)
  have hm := pick_lt (n := re) (m := 60) (by omega)
  generalize hV : pickN pt 20 = V at *
  generalize hN : pickN fi 60 = N at *
  generalize hM : pickN re 60 = M at *
  obtain ⟨n, rfl⟩ := Int.eq_ofNat_of_zero_le hn.1
  obtain ⟨m, rfl⟩ := Int.eq_ofNat_of_zero_le hm.1
  have HV := Lib.hid hV
  have HN := Lib.hid hN
  have HM := Lib.hid hM
  clear hV hN hM
  have hn60 : n < 60 := by omega
  have hm60 : m < 60 := by omega
  clear hn hm
  have S0 : Hid (sidedF [] 0 (1 + V) (sm 0) 2 = (⟨0, true, 0, 0, sm 0, 0, 1 + V⟩, 0)) := started 0 (.inl rfl) (p := 1 + V) (by omega) (by omega) (sm 0)
  have S1 : Hid (sidedF [] 1 (1 + V) (sm 0) 2 = (⟨1, false, 0, 0, sm 0, 0, 1 + V⟩, 0)) := started 1 (.inr rfl) (p := 1 + V) (by omega) (by omega) (sm 0)
  go_enter Try.func10, Try.ntmps10
  go_wp2_with fail
  refine (picked_any pt 20 _ hp.1 hp.2 (by omega) (by omega)).mono ?_
  rintro e w1 ⟨rfl, rfl⟩
  rw [HV.out]
  go_wp2_with fail
  refine (summed0_any _).mono ?_
  rintro e w2 ⟨rfl, r2, hb2, z2⟩
  have R2 := Lib.hid r2
  have B2 := Lib.hid hb2
  clear r2 hb2
  go_wp2_with fail
  refine (Start_any 0 (1 + V) _ 2 2 (sm 0) _ R2.out (by omega)).mono ?_
  intro e w3 hf3
  rw [S0.out] at hf3
  obtain ⟨A3, c3, rfl, r3, hb3, g3⟩ := hf3.rd
  simp only [SD.val, SD.set, sm_len] at r3 ⊢
  have z3 := hb3.size
  have R3 := Lib.hid r3
  have B3 := Lib.hid (B2.out.trans (hb3.mono (by omega)))
  clear hf3 r3 hb3 R2 B2
  go_wp2_with fail
  refine (summed0_any _).mono ?_
  rintro e w4 ⟨rfl, r4, hb4, z4⟩
  simp only [World.size_alloc] at z4 r4
  have K4 := Lib.hid ((Blk.new w3 25 (sideC 0 true 0 0 (.slice A3 2 c3) 0 (1 + V))).below hb4)
  have n4 := (below_alloc (.cells (sideC 0 true 0 0 (.slice A3 2 c3) 0 (1 + V)) 25)).trans (hb4.mono (by simp))
  have R4 := Lib.hid (R3.out.below n4)
  have Q4 := Lib.hid r4
  have B4 := Lib.hid (B3.out.trans (n4.mono (by omega)))
  clear r4 hb4 n4 R3 B3
  have d4 := K4.out.cell
  have e4 := K4.out.frozen
  have zl4 := K4.out.lt
  go_wp2_with fail
  refine (Start_any 1 (1 + V) _ 2 2 (sm 0) _ Q4.out (by omega)).mono ?_
  intro e w5 hf5
  rw [S1.out] at hf5
  obtain ⟨A5, c5, rfl, r5, hb5, g5⟩ := hf5.rd
  simp only [SD.val, SD.set, sm_len] at r5 ⊢
  have z5 := hb5.size
  have K5 := Lib.hid ((K4.out.below hb5).alloc (.cells (sideC 1 false 0 0 (.slice A5 2 c5) 0 (1 + V)) 25))
  have L5 := Lib.hid (Blk.new w5 25 (sideC 1 false 0 0 (.slice A5 2 c5) 0 (1 + V)))
  have R5 := Lib.hid ((R4.out.below hb5).alloc (.cells (sideC 1 false 0 0 (.slice A5 2 c5) 0 (1 + V)) 25))
  have T5 := Lib.hid (r5.alloc (.cells (sideC 1 false 0 0 (.slice A5 2 c5) 0 (1 + V)) 25))
  have B5 := Lib.hid ((B4.out.trans (hb5.mono (by omega))).alloc (by omega) (.cells (sideC 1 false 0 0 (.slice A5 2 c5) 0 (1 + V)) 25))
  have x3 : Hid (∀ a, A3 = some a → a.block ≠ w3.heap.size ∧ a.block ≠ w5.heap.size) := fun a ha => by have := g3 a ha; omega
  have x5 : Hid (∀ a, A5 = some a → a.block ≠ w3.heap.size ∧ a.block ≠ w5.heap.size) := fun a ha => by have := g5 a ha; omega
  have zl5 : w3.heap.size < w5.heap.size := by omega
  clear d4 e4
  have d4 := (K4.out.below hb5).cell
  have e4 := (K4.out.below hb5).frozen
  clear hf5 r5 hb5 R4 Q4 B4 K4
  go_wp2_with fail
  refine (picked_any fi 60 _ hf.1 hf.2 (by omega) (by omega)).mono ?_
  rintro e w6 ⟨rfl, rfl⟩
  rw [HN.out]
  go_wp2_with fail
  refine (picked_any re 60 _ hr.1 hr.2 (by omega) (by omega)).mono ?_
  rintro e w6 ⟨rfl, rfl⟩
  rw [HM.out]
  go_wp2
  clear d4 e4
  go_loopw [52] (fun i wr => ∃ q : Nat, q ≤ n ∧ i = .int .i64 q ∧ ∃ A c B d, Hid (Blk wr w3.heap.size 25 (sideC 0 true 0 (q : Int) (.slice A 2 c) 0 (1 + V))) ∧ Hid (Blk wr w5.heap.size 25 (sideC 1 false 0 (q : Int) (.slice B 2 d) 0 (1 + V))) ∧
    Hid (Rd wr 1 A 2 (ints (sm q))) ∧ Hid (Rd wr 1 B 2 (ints (sm q))) ∧ Hid (∀ a, A = some a → a.block ≠ w3.heap.size ∧ a.block ≠ w5.heap.size) ∧ Hid (∀ a, B = some a → a.block ≠ w3.heap.size ∧ a.block ≠ w5.heap.size) ∧ Hid (Below w1.heap.size w1 wr) ∧ w5.heap.size < wr.heap.size) (fun i _ => n - (intOf i).toNat)
  case atStart => exact ⟨0, Nat.zero_le _, rfl, A3, c3, A5, c5, K5, L5, R5, T5, x3, x5, B5, by rw [World.size_alloc]; omega⟩
  case round =>
    clear K5 L5 R5 T5 x3 x5 B5
    obtain ⟨q, hq, rfl, A, c, B, d, KA, KB, RA, RB, xA, xB, BW, zw⟩ := hrel
    by_cases hlt : q < n
    · have hsm1 := sm_succ q
      obtain ⟨T, hT⟩ : ∃ T : Int, (q : Int) * ((q : Int) + 1) / 2 = T := ⟨_, rfl⟩
      have hsm : sm q = [(q : Int), T] := by simp [sm, hT]
      have hTb : 0 ≤ T ∧ T ≤ 1000000 := by have := tri_bd (n := q) (by omega); omega
      rw [hT] at hsm1
      rw [hsm] at RA RB
      have HS1 := Lib.hid hsm1
      have DC := Lib.hid (doneC (me := 0) (.inl rfl) (term := 0) (cyc := (q : Int)) (p := 1 + V) (zs := [(q : Int), T]) (ys := [(q : Int) + 1, T + q + 1]) (by omega) (by omega) (by omega) (by omega) (by omega) (by omega))
      clear hsm hsm1 hT
      have d4 := KA.out.cell
      have e4 := KA.out.frozen
      have TR : Hid (Below wr.heap.size wr wr.drew) := below_drewN (Below.refl _ _) 1
      go_wp2
      go_region_with (first | (go_at_call_of 33 (Value.slice A 2 c); refine (after_any A c (q : Int) T _ (RA.out.below TR.out) (by omega) (by omega) (by omega) (by omega)).mono ?_; rintro e w6 ⟨B6, d6, rfl, r6, hb6⟩; (have TR := Lib.hid (below_step TR hb6)); (have q1 := (KA.out.below TR.out).cell); (have q2 := (KA.out.below TR.out).frozen); (have z6 := TR.out.size); (have R6 := Lib.hid r6); clear r6 hb6) | (go_at_call 21; refine (Done_any 0 true 0 (q : Int) A 2 c 0 (1 + V) [(q : Int), T] B6 2 d6 [(q : Int) + 1, T + q + 1] _ (RA.out.below TR.out) (by omega) R6.out (by omega)).mono ?_; intro e w7 hf7; rw [DC.out] at hf7; obtain ⟨A7, c7, rfl, r7, hb7, g7⟩ := hf7.rd; (simp only [SD.val, SD.set] at r7 ⊢); (have TR := Lib.hid (below_step TR hb7)); (have q3 := (KA.out.below TR.out).cell); (have q4 := (KA.out.below TR.out).frozen); (have z7 := TR.out.size); (have R7 := Lib.hid r7); clear r7 hb7 hf7))
      all_goals
        have zb1 := BW.out.size
        have n8 := grow7 w7 w3.heap.size (.int .i64 0) (.bool true) (.int .i64 0) (.int .i64 ((q : Int) + 1)) (.slice A7 2 c7) (.int .i64 0) (.int .i64 (1 + V))
        have KA8 := Lib.hid (blk7 (KA.out.below TR.out) (.int .i64 0) (.bool true) (.int .i64 0) (.int .i64 ((q : Int) + 1)) (.slice A7 2 c7) (.int .i64 0) (.int .i64 (1 + V)))
        have KB8 := Lib.hid ((KB.out.below TR.out).grown n8 (by intro e; injection e; omega))
        have xA8 : Hid (∀ a, A7 = some a → a.block ≠ w3.heap.size ∧ a.block ≠ w5.heap.size) := fun a ha => by have := g7 a ha; omega
        have RA8 := Lib.hid (R7.out.grown n8 (fun a ha e => (xA8.out a ha).1 (by injection e)))
        have RB8 := Lib.hid ((RB.out.below TR.out).grown n8 (fun a ha e => (xB.out a ha).1 (by injection e)))
        have BW8 := Lib.hid ((BW.out.trans (TR.out.mono zb1)).trans (Grow.below n8 (by omega) (fun x hx => by injection hx; omega)))
        have zz8 := n8.size
        clear n8 KA KB RA RB R6 R7 TR BW d4 e4 q1 q2 g7 xA
        go_wp2_with fail
        generalize World.setCell (World.setCell (World.setCell (World.setCell (World.setCell (World.setCell (World.setCell w7 _ _) _ _) _ _) _ _) _ _) _ _) _ _ = w8 at *
        clear q3 q4
        have SC := Lib.hid (sentC (term := 0) (cyc := (q : Int) + 1) (p := 1 + V) (zs := [(q : Int) + 1, T + (q : Int) + 1]) (by omega) (by omega) (by omega) (by omega) (by omega) (by omega))
        refine (Send_any 0 true 0 ((q : Int) + 1) A7 2 c7 0 (1 + V) [(q : Int) + 1, T + (q : Int) + 1] _ RA8.out (by omega)).mono ?_
        intro e w9 hf9
        rw [SC.out] at hf9
        obtain ⟨A9, c9, rfl, o9, hb9⟩ := hf9
        simp only at o9 ⊢
        have z9 := hb9.size
        have KA9 := Lib.hid (KA8.out.below hb9)
        have KB9 := Lib.hid (KB8.out.below hb9)
        have RA9 := Lib.hid (RA8.out.below hb9)
        have RB9 := Lib.hid (RB8.out.below hb9)
        have RT9 := Lib.hid (Rd.own o9)
        have BW9 := Lib.hid (BW8.out.trans (hb9.mono (by omega)))
        clear o9 hb9 KA8 KB8 RA8 RB8 BW8
        have d5 := KB9.out.cell
        have e5 := KB9.out.frozen
        have zl9 : w5.heap.size < w9.heap.size := by omega
        have HC := Lib.hid (heardC (cyc := (q : Int)) (p := 1 + V) (zs := [(q : Int), T]) (ys := [(q : Int) + 1, T + (q : Int) + 1]) (by omega) (by omega) (by omega) (by omega))
        go_wp2_with fail
        refine (Hear_any 1 false 0 (q : Int) B 2 d 0 (1 + V) [(q : Int), T] 0 0 ((q : Int) + 1) A9 2 c9 [(q : Int) + 1, T + (q : Int) + 1] _ (RB9.out.alloc _) (by omega) (RT9.out.alloc _) (by omega)).mono ?_
        intro e w10 hf10
        rw [HC.out] at hf10
        obtain ⟨B10, d10, rfl, r10, hb10, g10⟩ := hf10.rd
        simp only [SD.val, SD.set] at r10 ⊢
        have z10 := hb10.size
        simp only [World.size_alloc] at z10 g10
        have n10 := (below_alloc (.cells #[.int .i64 0, .int .i64 0, .int .i64 ((q : Int) + 1), .slice A9 2 c9] 33)).trans (hb10.mono (by simp))
        have n11 := grow7 w10 w5.heap.size (.int .i64 1) (.bool false) (.int .i64 0) (.int .i64 ((q : Int) + 1)) (.slice B10 2 d10) (.int .i64 0) (.int .i64 (1 + V))
        have KA11 := Lib.hid ((KA9.out.below n10).grown n11 (by intro e; injection e; omega))
        have KB11 := Lib.hid (blk7 (KB9.out.below n10) (.int .i64 1) (.bool false) (.int .i64 0) (.int .i64 ((q : Int) + 1)) (.slice B10 2 d10) (.int .i64 0) (.int .i64 (1 + V)))
        have xB11 : Hid (∀ a, B10 = some a → a.block ≠ w3.heap.size ∧ a.block ≠ w5.heap.size) := fun a ha => by have := g10 a ha; omega
        have RA11 := Lib.hid ((RA9.out.below n10).grown n11 (fun a ha e => (xA8.out a ha).2 (by injection e)))
        have RB11 := Lib.hid (r10.grown n11 (fun a ha e => (xB11.out a ha).2 (by injection e)))
        have BW11 := Lib.hid ((BW9.out.trans (n10.mono (by omega))).trans (Grow.below n11 (by omega) (fun x hx => by injection hx; omega)))
        have zz11 := n11.size
        clear d5 e5
        have d5 := (KB9.out.below n10).cell
        have e5 := (KB9.out.below n10).frozen
        clear hf10 r10 hb10 n10 n11 KA9 KB9 RA9 RB9 BW9 RT9 SC HC DC g10 xB
        go_wp2
        go_roundw
        case rel =>
          refine ⟨q + 1, by omega, by go_num, A7, c7, B10, d10, ?_, ?_, ?_, ?_, xA8, xB11, BW11, by omega⟩
          · simpa using KA11
          · simpa using KB11
          · rw [HS1.out]; exact RA11
          · rw [HS1.out]; exact RB11
        case measure => simp [intOf]; omega
    · obtain ⟨wq, hwq⟩ : ∃ wq : World, wq = wr := ⟨_, rfl⟩
      subst hwq
      have zb1 := BW.out.size
      clear RA KA xA
      go_wp2
      go_loopw [16] (fun i wr => ∃ k : Nat, (k : Int) ≤ 1 + V ∧ i = .int .i64 k ∧ ∃ B d act term sil, Hid ((k : Int) < 1 + V ∧ act = false ∧ term = 0 ∧ sil = (k : Int) ∨ (k : Int) = 1 + V ∧ act = true ∧ term = 1 ∧ sil = 0) ∧ Hid (Blk wr w5.heap.size 25 (sideC 1 act term (q : Int) (.slice B 2 d) sil (1 + V))) ∧
        Hid (Rd wr 1 B 2 (ints (sm q))) ∧ Hid (∀ a, B = some a → a.block ≠ w5.heap.size) ∧ Hid (Below w1.heap.size w1 wr) ∧ w5.heap.size < wr.heap.size) (fun i _ => (1 + V).toNat - (intOf i).toNat)
      case atStart => exact ⟨0, by omega, rfl, B, d, false, 0, 0, .inl ⟨by omega, rfl, rfl, rfl⟩, KB, RB, fun a ha => (xB.out a ha).2, BW, zw⟩
      case round =>
        clear KB RB xB BW
        obtain ⟨k, hk, rfl, B2, d2, act, term, sil, hcs, KB, RB, xB, BW, zw2⟩ := hrel
        by_cases hlt2 : (k : Int) < 1 + V
        · rcases hcs.out with ⟨_, rfl, rfl, rfl⟩ | ⟨hbad, _⟩
          rotate_left
          · omega
          clear hcs
          have d4 := KB.out.cell
          have e4 := KB.out.frozen
          have zb3 := BW.out.size
          have WC := Lib.hid (waitC (cyc := (q : Int)) (sil := (k : Int)) (p := 1 + V) (zs := sm q) (by omega) (by omega) (by omega) (by omega) (by omega) hlt2)
          go_wp2_with fail
          refine (Wait_any 1 false 0 (q : Int) B2 2 d2 (k : Int) (1 + V) (sm q) _ RB.out (by omega)).mono ?_
          intro e w7 hf7
          rw [WC.out] at hf7
          by_cases hend : (k : Int) + 1 < 1 + V
          · rw [if_pos hend] at hf7
            obtain ⟨B7, d7, rfl, r7, hb7, g7⟩ := hf7.rd
            simp only [SD.val, SD.set, sm_len] at r7 ⊢
            have z7 := hb7.size
            have n8 := grow7 w7 w5.heap.size (.int .i64 1) (.bool false) (.int .i64 0) (.int .i64 (q : Int)) (.slice B7 2 d7) (.int .i64 ((k : Int) + 1)) (.int .i64 (1 + V))
            have KB8 := Lib.hid (blk7 (KB.out.below hb7) (.int .i64 1) (.bool false) (.int .i64 0) (.int .i64 (q : Int)) (.slice B7 2 d7) (.int .i64 ((k : Int) + 1)) (.int .i64 (1 + V)))
            have xB8 : Hid (∀ a, B7 = some a → a.block ≠ w5.heap.size) := fun a ha => by have := g7 a ha; omega
            have RB8 := Lib.hid (r7.grown n8 (fun a ha e => xB8.out a ha (by injection e)))
            have BW8 := Lib.hid ((BW.out.trans (hb7.mono zb3)).trans (Grow.below n8 (by omega) (fun x hx => by injection hx; omega)))
            have zz8 := n8.size
            clear d4 e4
            have d4 := (KB.out.below hb7).cell
            have e4 := (KB.out.below hb7).frozen
            clear hf7 r7 hb7 n8 KB RB BW g7 xB WC
            go_wp2
            go_roundw
            case rel => exact ⟨k + 1, by omega, by go_num, B7, d7, false, 0, (k : Int) + 1, .inl ⟨by omega, rfl, rfl, by omega⟩, KB8, RB8, xB8, BW8, by omega⟩
            case measure => simp [intOf]; omega
          · rw [if_neg hend] at hf7
            obtain ⟨B7, d7, rfl, r7, hb7, g7⟩ := hf7.rd
            simp only [SD.val, SD.set, sm_len] at r7 ⊢
            have z7 := hb7.size
            have n8 := grow7 w7 w5.heap.size (.int .i64 1) (.bool true) (.int .i64 1) (.int .i64 (q : Int)) (.slice B7 2 d7) (.int .i64 0) (.int .i64 (1 + V))
            have KB8 := Lib.hid (blk7 (KB.out.below hb7) (.int .i64 1) (.bool true) (.int .i64 1) (.int .i64 (q : Int)) (.slice B7 2 d7) (.int .i64 0) (.int .i64 (1 + V)))
            have xB8 : Hid (∀ a, B7 = some a → a.block ≠ w5.heap.size) := fun a ha => by have := g7 a ha; omega
            have RB8 := Lib.hid (r7.grown n8 (fun a ha e => xB8.out a ha (by injection e)))
            have BW8 := Lib.hid ((BW.out.trans (hb7.mono zb3)).trans (Grow.below n8 (by omega) (fun x hx => by injection hx; omega)))
            have zz8 := n8.size
            clear d4 e4
            have d4 := (KB.out.below hb7).cell
            have e4 := (KB.out.below hb7).frozen
            clear hf7 r7 hb7 n8 KB RB BW g7 xB WC
            go_wp2
            go_roundw
            case rel => exact ⟨k + 1, by omega, by go_num, B7, d7, true, 1, 0, .inr ⟨by omega, rfl, rfl, rfl⟩, KB8, RB8, xB8, BW8, by omega⟩
            case measure => simp [intOf]; omega
        · rcases hcs.out with ⟨hbad, _⟩ | ⟨_, rfl, rfl, rfl⟩
          · omega
          clear hcs
          obtain ⟨we, hwe⟩ : ∃ we : World, we = wr := ⟨_, rfl⟩
          subst hwe
          go_wp2
          go_loopw [95] (fun i wr => ∃ r : Nat, r ≤ m ∧ i = .int .i64 r ∧ ∃ B d, Hid (Blk wr w5.heap.size 25 (sideC 1 true 1 ((q + r : Nat) : Int) (.slice B 2 d) 0 (1 + V))) ∧
            Hid (Rd wr 1 B 2 (ints (sm (q + r)))) ∧ Hid (∀ a, B = some a → a.block ≠ w5.heap.size) ∧ Hid (Below w1.heap.size w1 wr) ∧ w5.heap.size < wr.heap.size) (fun i _ => m - (intOf i).toNat)
          case atStart => exact ⟨0, Nat.zero_le _, rfl, B2, d2, KB, RB, xB, BW, zw2⟩
          case round =>
            clear KB RB xB BW
            obtain ⟨r, hr9, rfl, B3, d3, KB, RB, xB, BW, zw3⟩ := hrel
            obtain ⟨s, hs⟩ : ∃ s, s = q + r := ⟨_, rfl⟩
            rw [← hs] at KB RB
            have HSQ := Lib.hid hs
            have hs120 : s < 120 := by omega
            have zb3 := BW.out.size
            clear hs
            by_cases hlt3 : r < m
            · have hsm1 := sm_succ s
              obtain ⟨T, hT⟩ : ∃ T : Int, (s : Int) * ((s : Int) + 1) / 2 = T := ⟨_, rfl⟩
              have hsm : sm s = [(s : Int), T] := by simp [sm, hT]
              have hTb : 0 ≤ T ∧ T ≤ 1000000 := by have := tri_bd (n := s) (by omega); omega
              rw [hT] at hsm1
              rw [hsm] at RB
              have HS1 := Lib.hid hsm1
              have DC := Lib.hid (doneC (me := 1) (.inr rfl) (term := 1) (cyc := (s : Int)) (p := 1 + V) (zs := [(s : Int), T]) (ys := [(s : Int) + 1, T + s + 1]) (by omega) (by omega) (by omega) (by omega) (by omega) (by omega))
              clear hsm hsm1 hT
              have d4 := KB.out.cell
              have e4 := KB.out.frozen
              have TR : Hid (Below wr.heap.size wr wr.drew) := below_drewN (Below.refl _ _) 1
              go_wp2
              go_region_with (first | (go_at_call_of 33 (Value.slice B3 2 d3); refine (after_any B3 d3 (s : Int) T _ (RB.out.below TR.out) (by omega) (by omega) (by omega) (by omega)).mono ?_; rintro e w6 ⟨B6, d6, rfl, r6, hb6⟩; (have TR := Lib.hid (below_step TR hb6)); (have q1 := (KB.out.below TR.out).cell); (have q2 := (KB.out.below TR.out).frozen); (have z6 := TR.out.size); (have R6 := Lib.hid r6); clear r6 hb6) | (go_at_call 21; refine (Done_any 1 true 1 (s : Int) B3 2 d3 0 (1 + V) [(s : Int), T] B6 2 d6 [(s : Int) + 1, T + s + 1] _ (RB.out.below TR.out) (by omega) R6.out (by omega)).mono ?_; intro e w7 hf7; rw [DC.out] at hf7; obtain ⟨A7, c7, rfl, r7, hb7, g7⟩ := hf7.rd; (simp only [SD.val, SD.set] at r7 ⊢); (have TR := Lib.hid (below_step TR hb7)); (have q3 := (KB.out.below TR.out).cell); (have q4 := (KB.out.below TR.out).frozen); (have z7 := TR.out.size); (have R7 := Lib.hid r7); clear r7 hb7 hf7))
              all_goals
                have n8 := grow7 w7 w5.heap.size (.int .i64 1) (.bool true) (.int .i64 1) (.int .i64 ((s : Int) + 1)) (.slice A7 2 c7) (.int .i64 0) (.int .i64 (1 + V))
                have KB8 := Lib.hid (blk7 (KB.out.below TR.out) (.int .i64 1) (.bool true) (.int .i64 1) (.int .i64 ((s : Int) + 1)) (.slice A7 2 c7) (.int .i64 0) (.int .i64 (1 + V)))
                have xB8 : Hid (∀ a, A7 = some a → a.block ≠ w5.heap.size) := fun a ha => by have := g7 a ha; omega
                have RB8 := Lib.hid (R7.out.grown n8 (fun a ha e => xB8.out a ha (by injection e)))
                have BW8 := Lib.hid ((BW.out.trans (TR.out.mono zb3)).trans (Grow.below n8 (by omega) (fun x hx => by injection hx; omega)))
                have zz8 := n8.size
                clear n8 KB RB R6 R7 TR BW d4 e4 q1 q2 g7 xB DC
                go_wp2
                go_roundw
                case rel =>
                  have he : s + 1 = q + (r + 1) := by have := HSQ.out; omega
                  refine ⟨r + 1, by omega, by go_num, A7, c7, ?_, ?_, xB8, BW8, by omega⟩
                  · rw [← he]; simpa using KB8
                  · rw [← he, HS1.out]; exact RB8
                case measure => simp [intOf]; omega
            · have hsi : (s : Int) = (n : Int) + (m : Int) := by have := HSQ.out; omega
              rw [hsi] at KB
              have d4 := KB.out.cell
              have e4 := KB.out.frozen
              have hqm : q + m = n + m := by omega
              have hsn : s = n + m := by have := HSQ.out; omega
              have SM : ∀ w, Calls Try.prog 29 #[.int .i64 ((n : Int) + (m : Int))] w fun e w' => e = .returned (.slice (some ⟨w.heap.size, 0, none⟩) 2 2) ∧ Rd w' 1 (some ⟨w.heap.size, 0, none⟩) 2 (ints (sm s)) ∧ Below w.heap.size w w' ∧ w'.heap.size = w.heap.size + 1 := by
                intro w
                rw [← hsi]
                exact summed_any s w (by omega)
              have TR : Hid (Below wr.heap.size wr wr.drew) := below_drewN (Below.refl _ _) 1
              clear hqm hsn HSQ hsi
              go_wp2
              have hwr : IntKind.i64.wrap ((n : Int) + (m : Int)) = (n : Int) + (m : Int) := by rw [IntKind.wrap_i64]; omega
              go_region_with (first | (go_at_call 29; refine (SM _).mono ?_; rintro e w6 ⟨rfl, r6, hb6, z6⟩; (have TR := Lib.hid (below_step TR hb6)); (have R6 := Lib.hid r6); (have q1 := (KB.out.below TR.out).cell); (have q2 := (KB.out.below TR.out).frozen); clear r6 hb6) | (go_at_call 32; refine (equal_any B3 _ 2 2 d3 2 (sm s) (sm s) _ (RB.out.below TR.out) R6.out (by unfold maxLen; omega)).mono ?_; rintro e w8 ⟨rfl, q9, rfl⟩; rw [show decide (sm s = sm s) = true from by simp]))
              all_goals go_wp2
              all_goals go_ret
              all_goals first | exact ⟨rfl, below_drewN (BW.out.trans (TR.out.mono zb3)) _⟩ | exact ⟨rfl, BW.out.trans (TR.out.mono zb3)⟩
end Go.Proofs.Ytlccpnloankloaa.Pair
