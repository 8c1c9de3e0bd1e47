/-
  sameCode, of code that is the same. Conditions: both read, within the reach.
-/
import Derived.Test.YtiogcbckhaknmaaDoorCod2
import Derived.BigRegion
import Derived.BigQuiet
namespace Go.Proofs.YtiogcbckhaknmaaDoor.Cod
open Go.RowKit Go.Proofs.YtiogcbckhaknmaaDoor.W Go.Proofs.YtiogcbckhaknmaaDoor.Ints

theorem same_true (A B : Option Addr) (n c d : Nat) (xs : List Int) (w : World) (hA : Rd w 1 A n (ints xs)) (hB : Rd w 1 B n (ints xs)) (hm : n ≤ maxLen) :
    Calls Tryd.prog 8 #[.slice A n c, .slice B n d] w fun e w' => e = .returned (.bool true) ∧ ∃ q, w' = w.drewN q := by
  refine (sameInts_any A B n n c d xs xs w hA hB hm).mono ?_
  rintro e w' ⟨rfl, q, rfl⟩
  exact ⟨by simp, q, rfl⟩
set_option maxRecDepth 100000 in
set_option maxHeartbeats 12800000 in
theorem sameCode_true (A B : Option Addr) (n c d : Nat) (vs us : List PV) (ps : List PD) (w : World) (hC : CRd w A n vs ps) (hD : CRd w B n us ps) (hok : ∀ p ∈ ps, p.ok) (hn : n * 96 ≤ 140737488351232) :
    Calls Tryd.prog 9 #[.agg #[.slice A n c], .agg #[.slice B n d]] w fun e w' => e = .returned (.bool true) ∧ Below w.heap.size w w' := by
  have HC := Lib.hid hC
  have HD := Lib.hid hD
  have HOK := Lib.hid hok
  clear hC hD hok
  go_enter Tryd.func9, Tryd.ntmps9
  go_upto_region 1 with fail
  have M0 := Lib.hid (((Mem.start w).alloc 24 #[.slice A n c]).alloc 24 #[.slice B n d])
  simp only [World.size_alloc] at M0
  generalize World.alloc (World.alloc _ _) _ = w1 at M0 ⊢
  generalize w.heap.size = gb at M0 ⊢
  have x0 : w1.cell? ⟨gb, 0, none⟩ = some (.slice A n c) := M0.out.cellK 1 rfl 0
  have x1 : w1.cell? ⟨gb + 1, 0, none⟩ = some (.slice B n d) := M0.out.cellK 0 rfl 0
  go_wp2
  clear x0 x1
  go_loopw [5] (fun v5 wr => ∃ k : Nat, k ≤ n ∧ v5 = .int .i64 k ∧ Hid (Mem w wr [⟨gb + 1, 24, #[.slice B n d]⟩, ⟨gb, 24, #[.slice A n c]⟩] [])) (fun v5 _ => n - (intOf v5).toNat)
  case atStart => exact ⟨0, Nat.zero_le _, rfl, M0⟩
  case round =>
    clear M0
    obtain ⟨k, hk, rfl, M0⟩ := hrel
    have x0 : wr.cell? ⟨gb, 0, none⟩ = some (.slice A n c) := M0.out.cellK 1 rfl 0
    by_cases hlt : k < n
    · have x1 : wr.cell? ⟨gb + 1, 0, none⟩ = some (.slice B n d) := M0.out.cellK 0 rfl 0
      obtain ⟨b, o, v, p, rfl, hv, hp, hr, hbl, c0, c1, c2, c3, c4⟩ := (HC.out.below M0.out.bel).at hlt
      obtain ⟨b2, o2, u, p2, rfl, hu, hp2, hr2, hbl2, d0, d1, d2, d3, d4⟩ := (HD.out.below M0.out.bel).at hlt
      obtain rfl := Option.some.inj (hp.symm.trans hp2)
      have hkp := HOK.out p (List.mem_of_getElem? hp)
      have HR := Lib.hid (And.intro (HC.out.each k v p hv hp) (HD.out.each k u p hu hp))
      have e1 := hr.kind
      have e2 := hr.name
      have q1 := hr.fl
      have q2 := hr.sl
      have q3 := hr.tl
      have e3 := hr2.kind
      have e4 := hr2.name
      have r1 := hr2.fl
      have r2 := hr2.sl
      have r3 := hr2.tl
      obtain ⟨vk, vname, fA, fn, fc, sA, sn, sc, tA, tn, tc⟩ := v
      obtain ⟨uk, uname, gA, gn, gc, hA, hn', hc, iA, inn, ic⟩ := u
      dsimp only at e1 e2 e3 e4 q1 q2 q3 r1 r2 r3 c0 c1 c2 c3 c4 d0 d1 d2 d3 d4
      obtain rfl : uk = vk := e3.trans e1.symm
      obtain rfl : uname = vname := e4.trans e2.symm
      obtain rfl : gn = fn := r1.symm.trans q1
      obtain rfl : hn' = sn := r2.symm.trans q2
      obtain rfl : inn = tn := r3.symm.trans q3
      have m1 : gn * 8 ≤ 140737488351232 := by rw [← q1]; exact hkp.2.2.2.2.2.1
      have m2 : hn' * 56 ≤ 140737488351232 := by rw [← q2]; exact hkp.2.2.2.2.2.2.1
      have m3 : inn * 32 ≤ 140737488351232 := by rw [← q3]; exact hkp.2.2.2.2.2.2.2
      have hk0 : (0 : Int) ≤ (k : Int) := by omega
      have hkn : (k : Int) < (n : Int) := by omega
      clear hv hp hp2 hu hr hr2 e1 e2 e3 e4 q1 q2 q3 r1 r2 r3 hkp
      have hgb := (M0.out.ltK 1 rfl).2
      have hgb1 := (M0.out.ltK 0 rfl).2
      go_upto_region 6 with fail
      go_cut [6, 7] from 24 to 33 (fun v6 v7 wc => ∃ gp gq, v6 = .pointer (some ⟨gp, 0, none⟩) ∧ v7 = .pointer (some ⟨gq, 0, none⟩) ∧ Hid (Mem w wc [⟨gp, 43, #[.int .i64 uk, .string uname, .slice fA gn fc, .slice sA hn' sc, .slice tA inn tc]⟩, ⟨gq, 43, #[.int .i64 uk, .string uname, .slice gA gn gc, .slice hA hn' hc, .slice iA inn ic]⟩, ⟨gb + 1, 24, #[.slice (some ⟨b2, o2, none⟩) n d]⟩, ⟨gb, 24, #[.slice (some ⟨b, o, none⟩) n c]⟩] []))
      case first =>
        go_region
        all_goals go_wp2
        all_goals go_meet
        all_goals first
          | exact ⟨_, _, rfl, rfl, Lib.hid (by
              have h := ((M0.out.alloc 43 #[.int .i64 uk, .string uname, .slice fA gn fc, .slice sA hn' sc, .slice tA inn tc]).alloc 43 #[.int .i64 uk, .string uname, .slice gA gn gc, .slice hA hn' hc, .slice iA inn ic]).drew.upK 1 rfl
              simp only [World.size_alloc] at h
              exact h)⟩
          | exact ⟨_, _, rfl, rfl, Lib.hid (by
              have h := ((M0.out.alloc 43 #[.int .i64 uk, .string uname, .slice gA gn gc, .slice hA hn' hc, .slice iA inn ic]).alloc 43 #[.int .i64 uk, .string uname, .slice fA gn fc, .slice sA hn' sc, .slice tA inn tc]).drew
              simp only [World.size_alloc] at h
              exact h)⟩
      case rest =>
        obtain ⟨gp, gq, rfl, rfl, M1⟩ := hcut
        clear M0 x0 x1 hbl hbl2 c0 c1 c2 c3 c4 d0 d1 d2 d3 d4 hgb hgb1
        have px := M1.out.cellK 0 rfl
        have qx := M1.out.cellK 1 rfl
        have p0 : wc.cell? ⟨gp, 0, none⟩ = some (.int .i64 uk) := px 0
        have p1 : wc.cell? ⟨gp, 1, none⟩ = some (.string uname) := px 1
        have p2 : wc.cell? ⟨gp, 2, none⟩ = some (.slice fA gn fc) := px 2
        have q0 : wc.cell? ⟨gq, 0, none⟩ = some (.int .i64 uk) := qx 0
        have q1 : wc.cell? ⟨gq, 1, none⟩ = some (.string uname) := qx 1
        have q2 : wc.cell? ⟨gq, 2, none⟩ = some (.slice gA gn gc) := qx 2
        clear px qx
        go_wp2_with fail
        refine (same_true fA gA gn fc gc p.first wc (HR.out.1.first.below M1.out.bel) (HR.out.2.first.below M1.out.bel) (by unfold maxLen; omega)).mono ?_
        rintro e w3 ⟨rfl, q, rfl⟩
        dsimp only
        have M3 := Lib.hid (M1.out.drewN q)
        clear M1 p0 p1 p2 q0 q1 q2
        generalize World.drewN _ q = w3 at M3 ⊢
        have px := M3.out.cellK 0 rfl
        have qx := M3.out.cellK 1 rfl
        have p3 : w3.cell? ⟨gp, 3, none⟩ = some (.slice sA hn' sc) := px 3
        have p4 : w3.cell? ⟨gp, 4, none⟩ = some (.slice tA inn tc) := px 4
        have q3 : w3.cell? ⟨gq, 3, none⟩ = some (.slice hA hn' hc) := qx 3
        have q4 : w3.cell? ⟨gq, 4, none⟩ = some (.slice iA inn ic) := qx 4
        clear px qx
        go_wp2
        go_loopw [8] (fun v8 wi => ∃ j : Nat, j ≤ hn' ∧ v8 = .int .i64 j ∧ ∃ q, wi = w3.drewN q) (fun v8 _ => hn' - (intOf v8).toNat)
        case atStart => exact ⟨0, Nat.zero_le _, rfl, 0, rfl⟩
        case round =>
          obtain ⟨j, hj, rfl, q, rfl⟩ := hrel
          by_cases hjl : j < hn'
          · obtain ⟨e1, f1, s, rfl, hs, _, a0, a1, a2, a3, a4, a5⟩ := slot_at (HR.out.1.slots.below M3.out.bel) hjl
            obtain ⟨e2, f2, s2, rfl, hs2, _, b0, b1, b2, b3, b4, b5⟩ := slot_at (HR.out.2.slots.below M3.out.bel) hjl
            obtain rfl := Option.some.inj (hs.symm.trans hs2)
            have hj0 : (0 : Int) ≤ (j : Int) := by omega
            have hjn : (j : Int) < (hn' : Int) := by omega
            clear hs hs2
            go_wp2
            go_quiet (fail)
            go_wp2
            go_roundw
            case rel => exact ⟨j + 1, by omega, by go_num, _, rfl⟩
            case measure => simp [intOf]; omega
          · have hj1 : ¬ (j : Int) < (hn' : Int) := by omega
            have M4 := Lib.hid (M3.out.drewN q)
            have p4 : (w3.drewN q).cell? ⟨gp, 4, none⟩ = some (.slice tA inn tc) := p4
            have q4 : (w3.drewN q).cell? ⟨gq, 4, none⟩ = some (.slice iA inn ic) := q4
            have p3 : (w3.drewN q).cell? ⟨gp, 3, none⟩ = some (.slice sA hn' sc) := p3
            clear M3 q3
            generalize World.drewN _ q = w4 at M4 p3 p4 q4 ⊢
            go_wp2
            go_loopw [9] (fun v9 wi => ∃ j : Nat, j ≤ inn ∧ v9 = .int .i64 j ∧ ∃ q, wi = w4.drewN q) (fun v9 _ => inn - (intOf v9).toNat)
            case atStart => exact ⟨0, Nat.zero_le _, rfl, 0, rfl⟩
            case round =>
              obtain ⟨j, hj, rfl, q, rfl⟩ := hrel
              by_cases hjl : j < inn
              · obtain ⟨e1, f1, s, rfl, hs, _, a0, a1, a2, a3⟩ := instr_at (HR.out.1.text.below M4.out.bel) hjl
                obtain ⟨e2, f2, s2, rfl, hs2, _, b0, b1, b2, b3⟩ := instr_at (HR.out.2.text.below M4.out.bel) hjl
                obtain rfl := Option.some.inj (hs.symm.trans hs2)
                have hj0 : (0 : Int) ≤ (j : Int) := by omega
                have hjn : (j : Int) < (inn : Int) := by omega
                clear hs hs2
                go_wp2
                go_quiet (fail)
                go_wp2
                go_roundw
                case rel => exact ⟨j + 1, by omega, by go_num, _, rfl⟩
                case measure => simp [intOf]; omega
              · have hj1 : ¬ (j : Int) < (inn : Int) := by omega
                have M5 := Lib.hid ((((M4.out.drewN q).delK 0).delK 0))
                have p4 : (w4.drewN q).cell? ⟨gp, 4, none⟩ = some (.slice tA inn tc) := p4
                clear M4 q4
                generalize World.drewN _ q = w5 at M5 p4 ⊢
                go_wp2
                go_roundw
                case rel => exact ⟨k + 1, by omega, by go_num, M5⟩
                case measure => simp [intOf]; omega
    · have hk1 : ¬ (k : Int) < (n : Int) := by omega
      have B0 := Lib.hid M0.out.bel
      clear M0
      go_wp2
      go_ret
      exact ⟨rfl, B0.out⟩
end Go.Proofs.YtiogcbckhaknmaaDoor.Cod
