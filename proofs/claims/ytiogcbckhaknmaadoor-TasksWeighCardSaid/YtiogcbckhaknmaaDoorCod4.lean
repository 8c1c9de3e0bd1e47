/-
  spareCode, of copied code that nobody has written. Conditions: it is a copy, within the reach.
-/
import Derived.Test.YtiogcbckhaknmaaDoorCod3
import Derived.Deep.RegionHeld3
namespace Go.Proofs.YtiogcbckhaknmaaDoor.Cod
open Go.RowKit Go.Proofs.YtiogcbckhaknmaaDoor.W Go.Proofs.YtiogcbckhaknmaaDoor.Ints

set_option maxRecDepth 100000 in
set_option maxHeartbeats 12800000 in
theorem spareCode_true (lo : Nat) (A : Option Addr) (n c : Nat) (vs : List PV) (ps : List PD) (w : World) (hC : CCp lo w A n vs ps) (hok : ∀ p ∈ ps, p.ok) (hn : n * 96 ≤ 140737488351232) :
    Calls Tryd.prog 10 #[.agg #[.slice A n c]] w fun e w' => e = .returned (.bool true) ∧ Below w.heap.size w w' := by
  obtain ⟨i0, hi0, hz0, hz1, hz2⟩ := info_parts int_info
  have HC := Lib.hid hC
  have HOK := Lib.hid hok
  clear hC hok
  go_enter Tryd.func10, Tryd.ntmps10
  go_upto_region 1 with fail
  have M0 := Lib.hid ((Mem.start w).alloc 24 #[.slice A n c])
  generalize World.alloc _ _ = w1 at M0 ⊢
  generalize w.heap.size = gb at M0 ⊢
  go_wp2
  go_loopw [3] (fun v3 wr => ∃ k : Nat, k ≤ n ∧ v3 = .int .i64 k ∧ Hid (Mem w wr [⟨gb, 24, #[.slice A n c]⟩] [])) (fun v3 _ => n - (intOf v3).toNat)
  case atStart => exact ⟨0, Nat.zero_le _, rfl, M0⟩
  case round =>
    clear M0
    obtain ⟨k, hk, rfl, M0⟩ := hrel
    have x0 : wr.cell? ⟨gb, 0, none⟩ = some (.slice A n c) := M0.out.cellK 0 rfl 0
    by_cases hlt : k < n
    · obtain ⟨b, o, v, p, rfl, hv, hp, hr, hbl, c0, c1, c2, c3, c4⟩ := (HC.out.rd.below M0.out.bel).at hlt
      have hkp := HOK.out p (List.mem_of_getElem? hp)
      obtain ⟨gf, ef1, ef2, hf⟩ := (HC.out.each k v p hv hp).first
      obtain ⟨gt, et1, ht⟩ := (HC.out.each k v p hv hp).text
      have HR := Lib.hid (HC.out.each k v p hv hp).rd
      have q1 := hr.fl
      have q3 := hr.tl
      obtain ⟨vk, vname, fA, fn, fc, sA, sn, sc, tA, tn, tc⟩ := v
      dsimp only at ef1 ef2 et1 q1 q3 c0 c1 c2 c3 c4 hf ht
      subst ef1 ef2 et1
      have HF := Lib.hid (And.intro hf (And.intro ht (And.intro q1 q3)))
      have m1 : fn * 8 ≤ 140737488351232 := by rw [← q1]; exact hkp.2.2.2.2.2.1
      have m3 : tn * 32 ≤ 140737488351232 := by rw [← q3]; exact hkp.2.2.2.2.2.2.2
      have htc : tn + 1 ≤ tc := own_cap ht
      have hmk : Hid (∀ w', Below w.heap.size w w' → w'.cell? ⟨gt, tn * 4 + 1, none⟩ = some (.int .i64 (-9))) := Lib.hid fun w' hb => by
        rw [(own_below ht hb).cellAt (tn * 4 + 1) (by omega)]
        have e : textV (p.text ++ [markI]) = textV p.text ++ [.int .i64 0, .int .i64 (-9), .int .i64 0, .int .i64 0] := by simp [textV, IN.cs, markI]
        rw [e, List.getElem?_append_right (by rw [flat_len IN.size, q3]; omega), flat_len IN.size, q3, show tn * 4 + 1 - tn * 4 = 1 from by omega]
        rfl
      have hk0 : (0 : Int) ≤ (k : Int) := by omega
      have hkn : (k : Int) < (n : Int) := by omega
      have hw1 : IntKind.i64.wrap ((tn : Int) + 1) = (tn : Int) + 1 := by simp [IntKind.wrap, IntKind.bits, IntKind.signed]; omega
      have ht0 : (0 : Int) ≤ (tn : Int) + 1 := by omega
      have ht1 : (tn : Int) + 1 ≤ (tc : Int) := by omega
      have ht2 : (tn : Int) < (tn : Int) + 1 := by omega
      clear hv hp hr hf ht q1 q3 hkp
      go_upto_region 5 with fail
      have M1 := Lib.hid (M0.out.alloc 43 #[.int .i64 vk, .string vname, .slice (some ⟨gf, 0, none⟩) fn (fn + 5), .slice sA sn sc, .slice (some ⟨gt, 0, none⟩) tn tc]).drew
      clear M0 x0 hbl c0 c1 c2 c3 c4
      have HJ : Hid ((wr.alloc (.cells #[.int .i64 vk, .string vname, .slice (some ⟨gf, 0, none⟩) fn (fn + 5), .slice sA sn sc, .slice (some ⟨gt, 0, none⟩) tn tc] 43)).drew.heap.size = wr.heap.size + 1) := by rw [Hid]; simp
      generalize hgp : wr.heap.size = gp at M1 HJ ⊢
      generalize hw2 : World.alloc wr _ = w2 at M1 HJ ⊢
      clear hgp hw2
      have s1 : w2.drew.cell? ⟨gp, 2, none⟩ = some (.slice (some ⟨gf, 0, none⟩) fn (fn + 5)) ∧ w2.drew.cell? ⟨gp, 4, none⟩ = some (.slice (some ⟨gt, 0, none⟩) tn tc) ∧ w2.drew.cell? ⟨gt, tn * 4 + 1, none⟩ = some (.int .i64 (-9)) := ⟨M1.out.cellK 0 rfl 2, M1.out.cellK 0 rfl 4, hmk.out _ M1.out.bel⟩
      go_region_held3 (fun w' => w'.cell? ⟨gp, 2, none⟩ = some (.slice (some ⟨gf, 0, none⟩) fn (fn + 5)) ∧ w'.cell? ⟨gp, 4, none⟩ = some (.slice (some ⟨gt, 0, none⟩) tn tc) ∧ w'.cell? ⟨gt, tn * 4 + 1, none⟩ = some (.int .i64 (-9)))
        (with_reducible assumption)
        (first
          | (refine step_append_sl _ (by rfl) _ _ _ (by rfl) w2.drew.heap.size 3 i0 _ 1 8 Tryd.underlying25 hi0 hz0 hz1 hz2 rfl (by omega) (.slice none 0 0) 0 [] (by rfl) (World.ownsRow_nil _ _ _ _) (some ⟨gf, 0, none⟩) fn (fn + 5) (ints p.first) (by rfl) (HR.out.first.below M1.out.bel) (ones .i64 _) (by unfold maxLen; omega) (by omega) (Nat.le_refl _) fn (by omega) ?_
             intro A3 c3 w3 ho3 hg3 hat3
             have M3 := Lib.hid (M1.out.made (Grow.below hg3 (Nat.le_refl _) (fun g h => by simp [Value.ownBlock] at h)) ho3)
             have s3 : w3.cell? ⟨gp, 2, none⟩ = some (.slice (some ⟨gf, 0, none⟩) fn (fn + 5)) ∧ w3.cell? ⟨gp, 4, none⟩ = some (.slice (some ⟨gt, 0, none⟩) tn tc) ∧ w3.cell? ⟨gt, tn * 4 + 1, none⟩ = some (.int .i64 (-9)) := ⟨M3.out.cellK 0 rfl 2, M3.out.cellK 0 rfl 4, hmk.out _ M3.out.bel⟩
             clear ho3 hg3 hat3)
          | (go_at_call 21
             refine (left_any gf fn _ _ p.first w3 (Rd.own (own_below HF.out.1 M3.out.bel)) (M3.out.rdO 0 rfl) m1).mono ?_
             rintro e w4 ⟨rfl, q, rfl⟩
             dsimp only
             have M4 := Lib.hid (M3.out.drewN q)
             have s4 : (w3.drewN q).cell? ⟨gp, 2, none⟩ = some (.slice (some ⟨gf, 0, none⟩) fn (fn + 5)) ∧ (w3.drewN q).cell? ⟨gp, 4, none⟩ = some (.slice (some ⟨gt, 0, none⟩) tn tc) ∧ (w3.drewN q).cell? ⟨gt, tn * 4 + 1, none⟩ = some (.int .i64 (-9)) := ⟨M4.out.cellK 0 rfl 2, M4.out.cellK 0 rfl 4, hmk.out _ M4.out.bel⟩))
      have M5 := Lib.hid ((M4.out.delK 0).delO 0)
      clear M1 M3 M4 s1 s3 s4
      go_wp2
      go_roundw
      case rel => exact ⟨k + 1, by omega, by go_num, M5⟩
      case measure => simp [intOf]; omega
    · have hk1 : ¬ (k : Int) < (n : Int) := by omega
      have B0 := Lib.hid M0.out.bel
      clear M0
      go_wp2
      go_ret
      exact ⟨rfl, B0.out⟩
end Go.Proofs.YtiogcbckhaknmaaDoor.Cod
