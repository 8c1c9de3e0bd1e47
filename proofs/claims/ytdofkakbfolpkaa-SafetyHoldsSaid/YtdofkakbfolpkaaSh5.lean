/-
  The walk of the law SafetyHolds. Conditions: the arguments read, within the form's own reach.
-/
import Derived.Test.YtdofkakbfolpkaaSh4
import Derived.Test.YtdofkakbfolpkaaSf9
import Derived.Test.YtdofkakbfolpkaaSg7
import Derived.Deep.RegionHeld3
import Derived.Deep.DeepCutAuto
namespace Go.Proofs.Ytdofkakbfolpkaa.Sf
open Go.RowKit Go.Proofs.Ytdofkakbfolpkaa.W Go.Proofs.Ytdofkakbfolpkaa.Ints Go.Proofs.Ytdofkakbfolpkaa.Pop Go.Proofs.Ytdofkakbfolpkaa.Keep

theorem own_range {w : World} {base n c : Nat} {e : TypeId} {A : Option Addr} {xs : List Value} (h : w.ownsRow base e 1 (.slice A n c) n xs) : ∀ a, A = some a → base ≤ a.block ∧ a.block < w.heap.size := by
  obtain ⟨_, _, e1', _, _, _, hs4⟩ := own_shape h
  injection e1' with e1a _ _
  subst e1a
  exact hs4
theorem blk4 {w : World} {g : Nat} {t : TypeId} {a b c d : Value} (h : Blk w g t #[a, b, c, d]) (a' b' c' d' : Value) : Blk ((((w.setCell ⟨g, 0, none⟩ a').setCell ⟨g, 1, none⟩ b').setCell ⟨g, 2, none⟩ c').setCell ⟨g, 3, none⟩ d') g t #[a', b', c', d'] := by
  have k := (((h.put 0 a').put 1 b').put 2 c').put 3 d'
  simpa only [List.setIfInBounds_toArray, List.set_cons_succ, List.set_cons_zero] using k
theorem next_vals {d : Int} {ps : List (Int × List Int)} {down tk key nd nk : Bool} {first nf : Int} {hs nh told : List Int} (h : nextF d ps ⟨down, first, hs, tk⟩ told key = ⟨nd, nf, nh, nk⟩) :
    (down = false ∧ nd = decide (0 ≤ idxOf (d + 1) nh) ∧ nf = idxOf (d + 1) nh) ∨ (down = true ∧ (key && !tk && !(ps.any (holdsB told))) = true ∧ nd = false ∧ nf = -1) ∨ (down = true ∧ (key && !tk && !(ps.any (holdsB told))) = false ∧ nd = true ∧ nf = first) := by
  unfold nextF at h
  cases down
  · rw [if_pos rfl] at h
    injection h with h1 h2 h3 h4
    subst h3
    exact .inl ⟨rfl, h1.symm, h2.symm⟩
  · rw [if_neg (by intro hh; cases hh)] at h
    cases hk : (key && !tk && !(ps.any (holdsB told)))
    · rw [if_neg (by rw [hk]; decide)] at h
      injection h with h1 h2 h3 h4
      exact .inr (.inr ⟨rfl, rfl, h1.symm, h2.symm⟩)
    · rw [if_pos hk] at h
      injection h with h1 h2 h3 h4
      exact .inr (.inl ⟨rfl, rfl, h1.symm, h2.symm⟩)
theorem grow_of_below {w w' : World} (hb : Below w.heap.size w w') (r : Option Nat) : w.grownBy w' r := ⟨hb.os, hb.tape, hb.output, hb.size, fun k hk _ => hb.block k hk⟩
theorem grow_drewN {a w : World} {r : Option Nat} (h : a.grownBy w r) (k : Nat) : a.grownBy (w.drewN k) r := ⟨h.os, h.tape, h.output, h.size, h.block⟩
theorem begin_fine {d : Int} {ps : List (Int × List Int)} (h : guardF 6 d ps = (0, 0)) : beginF 6 d ps = (⟨false, -1, List.replicate ps.length 0, false⟩, 0) := by
  unfold beginF
  rw [h, if_pos rfl]

set_option maxRecDepth 100000 in
set_option maxHeartbeats 6400000 in
theorem walk_Holds (H : Type) (enc : TypeId × Value → H) (w : World) (Z : Option Addr) (n c : Nat) (o0 : O.Op enc Try.prog w 42 [.slice Z n c]) (delay : Int) (hd : (Lit.int .i64 delay).wf = true)
    (Q : Option Addr) (sl sc : Nat) (o2 : O.Op enc Try.prog w 43 [.slice Q sl sc]) :
    Calls Try.prog 5 #[.slice Z n c, .int .i64 delay, .slice Q sl sc] w fun e w' => e = .returned (.bool true) ∧ Below w.heap.size w w' := by
  obtain ⟨hd1, hd2⟩ : -9223372036854775808 ≤ delay ∧ delay ≤ 9223372036854775807 := by simpa [Lit.wf, IntKind.min, IntKind.max, IntKind.signed, IntKind.bits] using hd
  obtain ⟨bs, hnm, hr, hx⟩ := ballots_in o0
  obtain ⟨ss, hsm, hs⟩ := steps_in o2
  clear o0 o2 hd
  unfold maxLen at hsm
  by_cases hbig : 500 < sl
  · have hbig' : 500 < (sl : Int) := by omega
    go_enter Try.func5, Try.ntmps5
    go_wp2
    go_ret
    exact ⟨rfl, Below.refl _ _⟩
  have hbig' : decide (500 < (sl : Int)) = false := decide_eq_false (by omega)
  have hs500 : sl ≤ 500 := by omega
  have hpk := pick_lt (n := delay) (m := 4) (by omega)
  have hgf := guard_fine (ps := bs.map VD.pl) (d := pickN delay 4) hpk.1 hpk.2
  have hplen := guard_to_len (bs.map VD.pl) (min 8 (bs.map VD.pl).length)
  have HGD : Hid (∀ W : World, GRd W Z n bs → Calls Try.prog 18 #[.slice Z n c, .int .i64 delay] W fun e w' => GOwn W w' e (pickN delay 4) (guardP (bs.map VD.pl))) := fun W h => guard_any Z n c delay bs W h hnm hx hd1 hd2
  have HR := Lib.hid hr
  have HS := Lib.hid hs
  have hp16 : (guardP (bs.map VD.pl)).length ≤ 9 := by unfold guardP; omega
  have hp1 : 1 ≤ (guardP (bs.map VD.pl)).length := by simp [guardP, guardTo]
  have HGF := Lib.hid hgf
  have hgood := guard_good (bs.map VD.pl) (min 8 (bs.map VD.pl).length)
  have HGOOD : Hid ((guardP (bs.map VD.pl)).any (badV 6) = false) := hgood
  generalize guardP (bs.map VD.pl) = ps at *
  generalize pickN delay 4 = d at *
  obtain ⟨d0, d4⟩ := hpk
  clear hr hs hx hgf hplen hgood hbig
  go_enter Try.func5, Try.ntmps5
  go_wp2_with fail
  refine (HGD.out _ HR.out).mono ?_
  rintro e w1 ⟨B, c1, us, base, gx, rfl, hpl, hbase, ho, hf, _, hb⟩
  have hul : us.length = ps.length := by rw [← hpl, List.length_map]
  have hu := FrO.rd hf ho
  have HPL := Lib.hid hpl
  have KG := Lib.hid (Blk.new w1 24 #[.int .i64 6, .int .i64 d, .slice B us.length c1])
  have HU := Lib.hid (hu.alloc (.cells #[.int .i64 6, .int .i64 d, .slice B us.length c1] 24))
  have B1 := Lib.hid (hb.alloc hb.size (.cells #[.int .i64 6, .int .i64 d, .slice B us.length c1] 24))
  have z1 := hb.size
  have HST : Hid (∀ W : World, GRd W B us.length us → Calls Try.prog 9 #[guardV 6 d B us.length c1] W fun e w' => TripT W w' e (⟨false, -1, List.replicate us.length 0, false⟩, 0)) := fun W h => by
    have h1 := Start_any 6 d B us.length c1 us W h
    rw [HPL.out, begin_fine HGF.out, ← HPL.out, List.length_map] at h1
    exact h1
  clear ho hf hb hu hpl HGD hbase
  generalize hK : us.length = K at *
  have HKU := Lib.hid hK
  have HKP := Lib.hid hul
  have hK9 : K ≤ 9 := by omega
  have hK1 : 1 ≤ K := by omega
  clear hK hul hp16 hp1
  go_wp2_with fail
  refine (HST.out _ HU.out).mono ?_
  rintro e w2 ⟨A2, c2, rfl, ho2, hb2⟩
  simp only [List.length_replicate] at ho2 ⊢
  have z2 := hb2.size
  simp only [World.size_alloc] at z2
  have KG2 := Lib.hid (KG.out.below hb2)
  have HU2 := Lib.hid (HU.out.below hb2)
  have B2 := Lib.hid (B1.out.trans (hb2.mono (by simp; omega)))
  have HA2 := Lib.hid (Rd.own ho2)
  have HA2b : Hid (∀ a, A2 = some a → a.block < w2.heap.size) := by
    obtain ⟨_, _, e1', _, _, _, hs4⟩ := own_shape ho2
    injection e1' with e1a _ _
    subst e1a
    exact fun a ha => (hs4 a ha).2
  have hlg : w1.heap.size < w2.heap.size := by omega
  have cg := KG2.out.cell
  have hmk := make_any K (by omega)
  clear ho2 hb2 KG HU B1 HST
  go_wp2
  have HO : Hid (((w2.alloc (.cells #[.bool false, .int .i64 (-1), .slice A2 K c2, .bool false] 28)).alloc (.cells (noughts K) 3)).ownsRow (w2.heap.size + 1) 3 1 (.slice (some ⟨w2.heap.size + 1, 0, none⟩) K K) K (ints (List.replicate K 0))) := by
    have h := make_own K (by omega) (w2.alloc (.cells #[.bool false, .int .i64 (-1), .slice A2 K c2, .bool false] 28)) (base := w2.heap.size + 1) (by simp)
    rw [Hid]
    simpa only [World.size_alloc] using h
  have KT : Hid (Blk ((w2.alloc (.cells #[.bool false, .int .i64 (-1), .slice A2 K c2, .bool false] 28)).alloc (.cells (noughts K) 3)) w2.heap.size 28 #[.bool false, .int .i64 (-1), .slice A2 K c2, .bool false]) := (Blk.new w2 _ _).alloc _
  have HB := Lib.hid (below2 w2 (.cells #[.bool false, .int .i64 (-1), .slice A2 K c2, .bool false] 28) (.cells (noughts K) 3))
  have HA3 : Hid (Rd ((w2.alloc (.cells #[.bool false, .int .i64 (-1), .slice A2 K c2, .bool false] 28)).alloc (.cells (noughts K) 3)) 1 A2 K (ints ((List.replicate K 0).map (clip d)))) := by
    have e : (List.replicate K 0).map (clip d) = List.replicate K 0 := by
      rw [List.map_replicate]
      congr 1
      unfold clip
      rw [if_neg (by omega)]
    rw [e]
    exact HA2.out.below HB.out
  have hW : ((w2.alloc (.cells #[.bool false, .int .i64 (-1), .slice A2 K c2, .bool false] 28)).alloc (.cells (noughts K) 3)).heap.size = w2.heap.size + 2 := by simp
  generalize (w2.alloc (.cells #[.bool false, .int .i64 (-1), .slice A2 K c2, .bool false] 28)).alloc (.cells (noughts K) 3) = W3 at *
  clear hmk cg
  go_loopw [11, 12, 13, 14, 15, 16, 17, 18, 126, 143] (fun kv iv _ _ _ _ _ _ _ _ wr => ∃ (i : Nat) (down : Bool) (first : Int) (LG : List Int) (tk : Bool) (A : Option Addr) (c' : Nat), i ≤ sl ∧ iv = .int .i64 i ∧ kv = .bool tk ∧ Hid (LG.length = K) ∧ Hid (∀ x ∈ LG, 0 ≤ x ∧ x ≤ i) ∧ Hid ((down = false ∧ first = -1) ∨ (down = true ∧ 0 ≤ first ∧ first < K)) ∧
      Hid (Blk wr w2.heap.size 28 #[.bool down, .int .i64 first, .slice A K c', .bool tk]) ∧ Hid (wr.ownsRow (w2.heap.size + 1) 3 1 (.slice (some ⟨w2.heap.size + 1, 0, none⟩) K K) K (ints LG)) ∧ Hid (Rd wr 1 A K (ints (LG.map (clip d)))) ∧ Hid (∀ a, A = some a → a.block < wr.heap.size ∧ a.block ≠ w2.heap.size ∧ a.block ≠ w2.heap.size + 1) ∧ Hid (Below w2.heap.size w2 wr) ∧ w2.heap.size + 1 < wr.heap.size) (fun _ iv _ _ _ _ _ _ _ _ _ => sl - (intOf iv).toNat)
  case atStart =>
    exact ⟨0, false, -1, List.replicate K 0, false, A2, c2, Nat.zero_le _, rfl, rfl, List.length_replicate .., (fun x hx => by rw [(List.mem_replicate.1 hx).2]; simp), .inl ⟨rfl, rfl⟩, KT, HO, HA3, (fun a ha => by have := HA2b.out a ha; omega), HB, by omega⟩
  case round =>
    clear HO KT HB HA3 hW HA2 HA2b
    obtain ⟨i, down, first, LG, tk, A, c', hi, rfl, rfl, hlg0, hlb, hdf, kt, ho, hA, hAb, hb, hw2⟩ := hrel
    by_cases hlt : i < sl
    · obtain ⟨b, o, s, rfl, hst, hbl, v0, v1, hrs, hns, hxs⟩ := sd_at (HS.out.below (B2.out.trans (hb.out.mono (by omega)))) hlt
      obtain ⟨As, ns, cs, sk, xs⟩ := s
      simp only at v0 v1 hrs hns hxs
      have ct := kt.out.cell
      have cg := (KG2.out.below hb.out).cell
      have hi0 : (0 : Int) ≤ (i : Int) := by omega
      have his : (i : Int) < (sl : Int) := by omega
      have hw1 : w1.heap.size < wr.heap.size := by omega
      have hw3 : w2.heap.size < wr.heap.size := by omega
      clear hst
      go_wp2_with fail
      refine (tell_any As ns cs sk xs _ hrs hns hxs).mono ?_
      intro e w5 hf5
      obtain ⟨g5, rfl, hg1, hg2, ho5, hb5⟩ := hf5
      have HTL := Lib.hid (tell_len xs)
      have HTO := Lib.hid (tell_ok xs)
      generalize tellF xs = TF at *
      have z5 := hb5.size
      have v1' : w5.cell? ⟨b, o + i * 2 + 1, none⟩ = some (.bool sk) := (World.cell?_of_block (hb5.block b hbl)).trans v1
      have KT5 := Lib.hid (kt.out.below hb5)
      have KG5 := Lib.hid ((KG2.out.below hb.out).below hb5)
      have LO5 := Lib.hid (own_below ho.out hb5)
      have RA5 := Lib.hid (hA.out.below hb5)
      have HU5 := Lib.hid ((HU2.out.below hb.out).below hb5)
      have RZ5 := Lib.hid (Rd.own ho5)
      have BW5 := Lib.hid (hb.out.trans (hb5.mono (by omega)))
      have ct5 := KT5.out.cell
      have cg5 := KG5.out.cell
      have hKP := HKP.out
      have HSTEP : Hid (∀ W : World, GRd W B K us → Rd W 1 A K (ints (LG.map (clip d))) → Rd W 1 (some ⟨g5, 0, none⟩) 6 (ints TF) → Calls Try.prog 16 #[guardV 6 d B K c1, tripV down first A K c' tk, .slice (some ⟨g5, 0, none⟩) 6 6, .bool sk] W fun x w' => TripT W w' x (nextF d ps ⟨down, first, LG.map (clip d), tk⟩ TF sk, 0)) := by
        intro W h1 h2 h3
        have hlen : (LG.map (clip d)).length = K := by rw [List.length_map]; exact hlg0.out
        have h := Step_any 6 d B K c1 us ⟨down, first, LG.map (clip d), tk⟩ A c' TF (some ⟨g5, 0, none⟩) 6 6 sk W h1 (by simp only [hlen]; exact h2) (by simp only [hlen]; omega) h3 (by omega)
        simp only [hlen] at h
        rw [HPL.out] at h
        rw [step_fine HGF.out (stands_clip d0 (by rw [hlg0.out, hKP]) (fun x hx => (hlb.out x hx).1) (by rw [← hKP]; exact hdf.out)) HTL.out HTO.out] at h
        exact h
      have TR0 : Below w5.heap.size w5 w5.drew := below_drewN (Below.refl _ _) 1
      have kk : ∀ X : World, Below w5.heap.size w5 X → Hid (Below w5.heap.size w5 X) ∧ (∀ j, X.cell? ⟨w1.heap.size, j, none⟩ = #[.int .i64 6, .int .i64 d, .slice B K c1][j]?) ∧ (∀ j, X.cell? ⟨w2.heap.size, j, none⟩ = #[.bool down, .int .i64 first, .slice A K c', .bool tk][j]?) ∧ X.cell? ⟨b, o + i * 2 + 1, none⟩ = some (.bool sk) :=
        fun X hX => ⟨hX, (KG5.out.below hX).cell, (KT5.out.below hX).cell, (World.cell?_of_block (hX.block b (by omega))).trans v1'⟩
      clear hb5 ho5 kt ho hA hrs v0 v1 ct cg hKP
      generalize hNT : nextF d ps ⟨down, first, LG.map (clip d), tk⟩ TF sk = NT at *
      have HNT := Lib.hid hNT
      clear hNT
      obtain ⟨nd, nf, nh, nk⟩ := NT
      have TR1 : Below w5.heap.size w5 (w5.alloc (.cells #[.bool false, .int .i64 0, .slice none 0 0, .bool false] 28)).drew := below_drew (below_alloc _)
      go_wp2_with fail
      go_cut [14, 15] from 45 to 173 (fun uv ev wc => ∃ ux A6 c6, uv = .pointer (some ⟨ux, 0, none⟩) ∧ ev = .int .i64 0 ∧ Hid (Blk wc ux 28 #[.bool nd, .int .i64 nf, .slice A6 nh.length c6, .bool nk]) ∧ Hid (Rd wc 1 A6 nh.length (ints nh)) ∧ Hid (∀ a, A6 = some a → w5.heap.size ≤ a.block ∧ a.block < wc.heap.size) ∧ Hid (Below w5.heap.size w5 wc) ∧ w5.heap.size ≤ ux ∧ ux < wc.heap.size)
      case first =>
        go_region_held3 (fun w' => Hid (Below w5.heap.size w5 w') ∧ (∀ j, w'.cell? ⟨w1.heap.size, j, none⟩ = #[.int .i64 6, .int .i64 d, .slice B K c1][j]?) ∧ (∀ j, w'.cell? ⟨w2.heap.size, j, none⟩ = #[.bool down, .int .i64 first, .slice A K c', .bool tk][j]?) ∧ w'.cell? ⟨b, o + i * 2 + 1, none⟩ = some (.bool sk))
          (first | exact ⟨TR0, cg5, ct5, v1'⟩ | exact ⟨TR6, q1, q2, q3⟩ | (refine kk _ ?_; repeat' (first | (with_reducible exact TR6.out) | (with_reducible exact TR1) | (with_reducible refine Below.setCell ?_ ?_ _; rotate_left; (first | omega | (simp <;> omega))) | (with_reducible refine Below.alloc ?_ ?_ _; rotate_left; (first | omega | (simp <;> omega))))))
          (first
            | (go_at_call 16; refine (HSTEP.out _ (HU5.out.below (Hid.out (by assumption))) (RA5.out.below (Hid.out (by assumption))) (RZ5.out.below (Hid.out (by assumption)))).mono ?_; intro x w6 hf6; obtain ⟨A6, c6, rfl, ho6, hb6⟩ := hf6; have TR6 : Hid (Below w5.heap.size w5 w6) := below_step (by assumption) hb6; have q1 := (KG5.out.below TR6.out).cell; have q2 := (KT5.out.below TR6.out).cell; have q3 := (World.cell?_of_block (TR6.out.block b (by omega))).trans v1'; have z6 := TR6.out.size; have R6 := Lib.hid (Rd.own ho6); have RB6 := own_range ho6; (try (have KU6 := (Blk.new w5 28 #[.bool false, .int .i64 0, .slice none 0 0, .bool false]).drew.below hb6; have cu6 := KU6.cell; have fu6 := KU6.frozen; have hu6 := KU6.lt))))
        all_goals go_wp2_with fail
        all_goals go_meet
        all_goals first
          | exact ⟨w6.heap.size, A6, c6, rfl, rfl, Blk.new w6 _ _, R6.out.alloc _, (fun a ha => ⟨(RB6 a ha).1, by have := (RB6 a ha).2; simp; omega⟩), TR6.out.alloc z6 _, z6, by simp⟩
          | exact ⟨w5.heap.size, A6, c6, rfl, rfl, blk4 KU6 (.bool nd) (.int .i64 nf) (.slice A6 nh.length c6) (.bool nk), (((R6.out.set (p := ⟨w5.heap.size, 0, none⟩) (fun a ha => by have h := (RB6 a ha).1; simp at h; simp; omega) _).set (p := ⟨w5.heap.size, 1, none⟩) (fun a ha => by have h := (RB6 a ha).1; simp at h; simp; omega) _).set (p := ⟨w5.heap.size, 2, none⟩) (fun a ha => by have h := (RB6 a ha).1; simp at h; simp; omega) _).set (p := ⟨w5.heap.size, 3, none⟩) (fun a ha => by have h := (RB6 a ha).1; simp at h; simp; omega) _,
              (fun a ha => by have h := RB6 a ha; simp at h; simp; omega), (((TR6.out.setCell (p := ⟨w5.heap.size, 0, none⟩) (by simp) _).setCell (p := ⟨w5.heap.size, 1, none⟩) (by simp) _).setCell (p := ⟨w5.heap.size, 2, none⟩) (by simp) _).setCell (p := ⟨w5.heap.size, 3, none⟩) (by simp) _, Nat.le_refl _, by simp; exact hu6⟩
      case rest =>
        obtain ⟨ux, A6, c6, rfl, rfl, ku, r6, rb6, b6, hux, hux2⟩ := hcut
        have KT6 := Lib.hid (KT5.out.below b6.out)
        have KG6 := Lib.hid (KG5.out.below b6.out)
        have LO6 := Lib.hid (own_below LO5.out b6.out)
        have RZ6 := Lib.hid (RZ5.out.below b6.out)
        have HU6 := Lib.hid (HU5.out.below b6.out)
        have BW6 := Lib.hid (BW5.out.trans (b6.out.mono (by omega)))
        have hbc : b < wc.heap.size := by omega
        have vk : wc.cell? ⟨b, o + i * 2 + 1, none⟩ = some (.bool sk) := (World.cell?_of_block (b6.out.block b (by omega))).trans v1'
        have hnh : nh = (longF TF ps LG).map (clip d) := by
          have h := HNT.out
          rw [← clip_held d TF d0]
          unfold nextF at h
          split at h
          · injection h with _ _ h3 _
            exact h3.symm
          · split at h
            · injection h with _ _ h3 _
              exact h3.symm
            · injection h with _ _ h3 _
              exact h3.symm
        have hnk : nk = sk := by
          have h := HNT.out
          unfold nextF at h
          split at h
          · injection h with _ _ _ h4
            exact h4.symm
          · split at h
            · injection h with _ _ _ h4
              exact h4.symm
            · injection h with _ _ _ h4
              exact h4.symm
        subst hnk
        have HNH := Lib.hid hnh
        have hnl : nh.length = K := by rw [hnh, List.length_map, long_len (by rw [hlg0.out, HKP.out]), HKP.out]
        generalize hnl2 : nh.length = L6 at *
        subst hnl
        have HNL := Lib.hid hnl2
        clear hnh hnl2 KT5 KG5 LO5 RA5 HU5 RZ5 BW5 HSTEP kk TR0 TR1 ct5 cg5 v1' b6
        have cg := KG6.out.cell
        have ct := KT6.out.cell
        have cu := ku.out.cell
        have hw1c : w1.heap.size < wc.heap.size := by omega
        have hw2c : w2.heap.size < wc.heap.size := by omega
        obtain ⟨wo, hwo⟩ : ∃ w0 : World, w0 = wr := ⟨_, rfl⟩
        subst hwo
        have HLL : Hid (LG.length = ps.length) := by rw [Hid, hlg0.out, HKP.out]
        have HO0 : Hid (wc.ownsRow (w2.heap.size + 1) 3 1 (.slice (some ⟨w2.heap.size + 1, 0, none⟩) L6 L6) L6 (ints (midTo TF ps LG 0))) := by rw [mid_zero]; exact LO6.out
        have HG0 : Hid (wc.grownBy wc (some (w2.heap.size + 1))) := Grow.refl _ _
        clear LO6
        go_wp2
        go_loopw [16, 17, 18] (fun sm rp kv wr => ∃ q : Nat, q ≤ L6 ∧ kv = .int .i64 q ∧ sm = .bool ((ps.take q).any (holdsB TF)) ∧ rp = .int .i64 (idxOf (d + 1) (nh.take q)) ∧ Hid (wr.ownsRow (w2.heap.size + 1) 3 1 (.slice (some ⟨w2.heap.size + 1, 0, none⟩) L6 L6) L6 (ints (midTo TF ps LG q))) ∧ Hid (wc.grownBy wr (some (w2.heap.size + 1)))) (fun _ _ kv _ => L6 - (intOf kv).toNat)
        case atStart => exact ⟨0, Nat.zero_le _, rfl, by simp, by simp [idxOf], HO0, HG0⟩
        case round =>
          clear HO0 HG0 cg ct cu
          obtain ⟨q, hq, rfl, rfl, rfl, ho, hg⟩ := hrel
          have BWr : Below w2.heap.size w2 wr := BW6.out.trans (Grow.below hg.out (by omega) (fun g hg => by injection hg; omega))
          have cg := (KG2.out.below BWr).cell
          have hzr := hg.out.size
          have l1 : w1.heap.size < wr.heap.size := by omega
          by_cases hlq : q < L6
          · have hqp : q < ps.length := by have := HKP.out; omega
            have hlgq : q < LG.length := by have := HLL.out; omega
            have hxb := hlb.out (LG.getD q 0) (by simp [List.getD_eq_getElem?_getD, List.getElem?_eq_getElem hlgq])
            have hmg := mid_get (told := TF) HLL.out hqp
            have hcl : wr.cell? ⟨w2.heap.size + 1, q, none⟩ = some (.int .i64 (LG.getD q 0)) := by
              rw [ho.out.cellAt q (by omega)]
              simp only [List.getElem?_map, hmg]
              rfl
            have hfz := ho.out.frozenAt q
            have hq0 : (0 : Int) ≤ (q : Int) := by omega
            have hqL : (q : Int) < (L6 : Int) := by omega
            obtain ⟨g1, g2⟩ := ho.out.stored q (.int .i64 (LG.getD q 0 + 1))
            have BW1 : Below w2.heap.size w2 (wr.setCell ⟨w2.heap.size + 1, q, none⟩ (.int .i64 (LG.getD q 0 + 1))) := BWr.setCell (by simp) _
            obtain ⟨bv, ov, v, e9, hvt, hbv, v0, v1, hrv, hvn, _⟩ := vote_at (HU2.out.below BW1) hlq
            obtain ⟨bv', ov', v', e9', hvt', hbv', u0, u1, _, _, _⟩ := vote_at HU2.out hlq
            have e10 := e9.symm.trans e9'
            injection e10 with e10
            injection e10 with e10a e10b
            subst e10a e10b e9
            have hbw : bv < w2.heap.size := hbv'
            clear e9' hvt' u0 u1 hbv'
            have hpt := pl_at hvt
            rw [HPL.out] at hpt
            have hgv := good_vote (not_bad HGOOD.out hpt)
            have HMN := Lib.hid (mid_next (told := TF) HLL.out hpt)
            have HLA := long_at (told := TF) HLL.out hpt
            have HNT2 : Hid (nh.take (q + 1) = nh.take q ++ [clip d (longAt TF v.pl (LG.getD q 0))]) := by
              refine held_take ?_
              rw [HNH.out, List.getElem?_map, HLA]
              rfl
            have HANY := Lib.hid (any_step (f := holdsB TF) hpt)
            have HTKL : Hid ((nh.take q).length = q) := by rw [Hid, List.length_take, HNL.out]; omega
            have HLAT1 : Hid (holdsB TF v.pl = true → longAt TF v.pl (LG.getD q 0) = LG.getD q 0 + 1) := fun h => by unfold longAt; rw [if_pos h]
            have HLAT0 : Hid (holdsB TF v.pl = false → longAt TF v.pl (LG.getD q 0) = 0) := fun h => by unfold longAt; rw [if_neg (by rw [h]; decide)]
            obtain ⟨need, A5, vn, vc5, of⟩ := v
            simp only [VD.pl] at hpt hgv v0 v1 hrv hvn HMN HNT2 HANY HLAT1 HLAT0
            generalize longAt TF (need, of) (LG.getD q 0) = lv at *
            generalize LG.getD q 0 = x at *
            generalize hix0 : idxOf (d + 1) (nh.take q) = ix at *
            have HIX0 := Lib.hid hix0
            generalize (ps.take q).any (holdsB TF) = sm0 at *
            have hx5 : 0 ≤ x ∧ x ≤ 500 := by omega
            have RZ1 := Lib.hid ((RZ6.out.grown hg.out (fun a ha e => by injection ha with ha; subst ha; injection e with e; simp only at e; omega)).set (p := ⟨w2.heap.size + 1, q, none⟩) (fun a ha => by injection ha with ha; subst ha; simp; omega) (.int .i64 (x + 1)))
            have HGV := Lib.hid hgv.1
            have HRV := Lib.hid hrv
            have HG1 := Lib.hid (Grow.trans hg.out g2 (fun _ _ => .inl rfl))
            have HO1 := Lib.hid g1
            have hne1 : w1.heap.size ≠ w2.heap.size + 1 := by omega
            have hne2 : bv ≠ w2.heap.size + 1 := by omega
            clear g1 g2 hmg hvt hpt hgv hrv hix0 ho hg HLA BWr hxb
            go_wp2_with fail
            refine (holds_any need A5 vn vc5 of (some ⟨g5, 0, none⟩) 6 6 TF _ HRV.out hvn RZ1.out HGV.out).mono ?_
            rintro e w9 ⟨rfl, hb9⟩
            have BW9 := BW1.trans (hb9.mono (by simp; omega))
            have cg := (KG2.out.below BW9).cell
            have HO9 := Lib.hid (own_below HO1.out hb9)
            have HG9 := Lib.hid (Grow.trans HG1.out (grow_of_below hb9 (some (w2.heap.size + 1))) (fun _ _ => .inl rfl))
            have z9 := HG9.out.size
            have l1 : w1.heap.size < w9.heap.size := by omega
            clear HO1 HG1 RZ1 HRV hb9 hcl hfz v0 v1
            cases hh : holdsB TF (need, of)
            · have HLV : Hid (lv = 0) := HLAT0.out hh
              have hfz := HO9.out.frozenAt q
              have hl9 : ((ints (midTo TF ps LG q)).set q (.int .i64 (x + 1))).length = L6 := by have := HO9.out.1; omega
              have hcq : w9.cell? ⟨w2.heap.size + 1, q, none⟩ = some (.int .i64 (x + 1)) := by
                rw [HO9.out.cellAt q (by omega), List.getElem?_set_self (by simpa using (by omega : q < ((ints (midTo TF ps LG q)).set q (.int .i64 (x + 1))).length))]
              obtain ⟨g1, g2⟩ := HO9.out.stored q (.int .i64 0)
              have hset : ((ints (midTo TF ps LG q)).set q (.int .i64 (x + 1))).set q (.int .i64 0) = ints (midTo TF ps LG (q + 1)) := by rw [HMN.out, HLV.out, List.set_set, ints_set]
              rw [hset] at g1
              have HO9 := Lib.hid g1
              have HG9 := Lib.hid (Grow.trans HG9.out g2 (fun _ _ => .inl rfl))
              have hdd : decide (d < 0) = false := decide_eq_false (by omega)
              have HSM : Hid (sm0 = (ps.take (q + 1)).any (holdsB TF)) := by rw [Hid, HANY.out, hh, Bool.or_false]
              have HRP : Hid (ix = idxOf (d + 1) (nh.take (q + 1))) := by rw [Hid, HNT2.out, HLV.out, ← HIX0.out, idx_keep (by unfold clip; rw [if_neg (by omega)]; simp; omega)]
              clear g1 g2 hset hl9 hh
              cases sm0
              · go_wp2_with fail
                go_quiet (fail)
                go_wp2
                go_roundw
                case rel => exact ⟨q + 1, by omega, by go_num, by rw [HSM.out], by rw [HRP.out], HO9, grow_drewN HG9.out _⟩
                case measure => simp [intOf]; omega
              · go_wp2_with fail
                go_quiet (fail)
                go_wp2
                go_roundw
                case rel => exact ⟨q + 1, by omega, by go_num, by rw [HSM.out], by rw [HRP.out], HO9, grow_drewN HG9.out _⟩
                case measure => simp [intOf]; omega
            · have HLV : Hid (lv = x + 1) := HLAT1.out hh
              have hl9 : ((ints (midTo TF ps LG q)).set q (.int .i64 (x + 1))).length = L6 := by have := HO9.out.1; omega
              have hcq : w9.cell? ⟨w2.heap.size + 1, q, none⟩ = some (.int .i64 (x + 1)) := by
                rw [HO9.out.cellAt q (by omega), List.getElem?_set_self (by simpa using (by omega : q < ((ints (midTo TF ps LG q)).set q (.int .i64 (x + 1))).length))]
              have hset : (ints (midTo TF ps LG q)).set q (.int .i64 (x + 1)) = ints (midTo TF ps LG (q + 1)) := by rw [HMN.out, HLV.out, ints_set]
              have ho9 := HO9.out
              rw [hset] at ho9
              have HO9 := Lib.hid ho9
              have HSM : Hid (true = (ps.take (q + 1)).any (holdsB TF)) := by rw [Hid, HANY.out, hh, Bool.or_true]
              have hx0 : 0 < x + 1 := by omega
              clear ho9 hset hl9 hh
              by_cases hxd : x + 1 ≤ d
              · have hdd : decide (d < x + 1) = false := decide_eq_false (by omega)
                have HRP : Hid (ix = idxOf (d + 1) (nh.take (q + 1))) := by rw [Hid, HNT2.out, HLV.out, ← HIX0.out, idx_keep (by unfold clip; rw [if_neg (by omega)]; simp; omega)]
                clear hxd
                cases sm0
                · go_wp2_with fail
                  go_quiet (fail)
                  go_wp2
                  go_roundw
                  case rel => exact ⟨q + 1, by omega, by go_num, by rw [HSM.out], by rw [HRP.out], HO9, grow_drewN HG9.out _⟩
                  case measure => simp [intOf]; omega
                · go_wp2_with fail
                  go_quiet (fail)
                  go_wp2
                  go_roundw
                  case rel => exact ⟨q + 1, by omega, by go_num, by rw [HSM.out], by rw [HRP.out], HO9, grow_drewN HG9.out _⟩
                  case measure => simp [intOf]; omega
              · have hdd : d < x + 1 := by omega
                have HCL : Hid (clip d lv = d + 1) := by rw [Hid, HLV.out]; unfold clip; rw [if_pos (by omega)]
                clear hxd
                by_cases hix : 0 ≤ ix
                · have hix1 : decide (ix < 0) = false := decide_eq_false (by omega)
                  have HRP : Hid (ix = idxOf (d + 1) (nh.take (q + 1))) := by rw [Hid, HNT2.out, idx_snoc, HIX0.out, if_pos hix]
                  cases sm0
                  · go_wp2_with fail
                    go_quiet (fail)
                    go_wp2
                    go_roundw
                    case rel => exact ⟨q + 1, by omega, by go_num, by rw [HSM.out], by rw [HRP.out], HO9, grow_drewN HG9.out _⟩
                    case measure => simp [intOf]; omega
                  · go_wp2_with fail
                    go_quiet (fail)
                    go_wp2
                    go_roundw
                    case rel => exact ⟨q + 1, by omega, by go_num, by rw [HSM.out], by rw [HRP.out], HO9, grow_drewN HG9.out _⟩
                    case measure => simp [intOf]; omega
                · have hix1 : ix < 0 := by omega
                  have HRP : Hid ((q : Int) = idxOf (d + 1) (nh.take (q + 1))) := by rw [Hid, HNT2.out, HCL.out, idx_snoc, HIX0.out, if_neg hix, if_pos (by simp), HTKL.out]
                  clear hix
                  cases sm0
                  · go_wp2_with fail
                    go_quiet (fail)
                    go_wp2
                    go_roundw
                    case rel => exact ⟨q + 1, by omega, by go_num, by rw [HSM.out], by rw [HRP.out], HO9, grow_drewN HG9.out _⟩
                    case measure => simp [intOf]; omega
                  · go_wp2_with fail
                    go_quiet (fail)
                    go_wp2
                    go_roundw
                    case rel => exact ⟨q + 1, by omega, by go_num, by rw [HSM.out], by rw [HRP.out], HO9, grow_drewN HG9.out _⟩
                    case measure => simp [intOf]; omega
          · obtain rfl : q = L6 := by omega
            have htn : nh.take q = nh := List.take_of_length_le (by rw [HNL.out]; exact Nat.le_refl _)
            have htp : ps.take q = ps := List.take_of_length_le (by rw [← HKP.out]; exact Nat.le_refl _)
            rw [htn, htp]
            have hov := next_vals HNT.out
            have hixb := idx_lt (v := d + 1) (xs := nh)
            rw [HNL.out] at hixb
            have KTr := Lib.hid (KT6.out.grown hg.out (by simp))
            have kur := ku.out.grown hg.out (by simp; omega)
            have ct := KTr.out.cell
            have ft := KTr.out.frozen
            have cu := kur.cell
            have hbw : b < w.heap.size := by
              obtain ⟨b2, _, _, e2, _, h2, _⟩ := sd_at HS.out hlt
              injection e2 with e2
              injection e2 with e2 _
              subst e2
              exact h2
            have hsz0 := B2.out.size
            have vk' : wr.cell? ⟨b, o + i * 2 + 1, none⟩ = some (.bool nk) := (World.cell?_of_block (hg.out.block b (by omega) (by simp; omega))).trans vk
            have HLNL : Hid ((longF TF ps LG).length = q) := by rw [Hid, long_len HLL.out, HKP.out]
            have HLNB : Hid (∀ x ∈ longF TF ps LG, 0 ≤ x ∧ x ≤ ((i + 1 : Nat) : Int)) := long_bound hlb.out (by omega)
            have hom := ho.out
            rw [show midTo TF ps LG q = longF TF ps LG from by rw [HKP.out]; exact mid_all HLL.out] at hom
            have KT9 := Lib.hid (blk4 KTr.out (.bool nd) (.int .i64 nf) (.slice A6 q c6) (.bool nk))
            have HO9 : Hid (((((wr.setCell ⟨w2.heap.size, 0, none⟩ (.bool nd)).setCell ⟨w2.heap.size, 1, none⟩ (.int .i64 nf)).setCell ⟨w2.heap.size, 2, none⟩ (.slice A6 q c6)).setCell ⟨w2.heap.size, 3, none⟩ (.bool nk)).ownsRow (w2.heap.size + 1) 3 1 (.slice (some ⟨w2.heap.size + 1, 0, none⟩) q q) q (ints (longF TF ps LG))) :=
              ownsRow_setCell_below (ownsRow_setCell_below (ownsRow_setCell_below (ownsRow_setCell_below hom (by simp) _) (by simp) _) (by simp) _) (by simp) _
            have hra : ∀ a, A6 = some a → a.block ≠ w2.heap.size ∧ a.block ≠ w2.heap.size + 1 := fun a ha => by have := rb6.out a ha; omega
            have RA9 : Hid (Rd ((((wr.setCell ⟨w2.heap.size, 0, none⟩ (.bool nd)).setCell ⟨w2.heap.size, 1, none⟩ (.int .i64 nf)).setCell ⟨w2.heap.size, 2, none⟩ (.slice A6 q c6)).setCell ⟨w2.heap.size, 3, none⟩ (.bool nk)) 1 A6 q (ints ((longF TF ps LG).map (clip d)))) := by
              rw [← HNH.out]
              exact ((((r6.out.grown hg.out (fun a ha e => by have := (hra a ha).2; injection e; omega)).set (p := ⟨w2.heap.size, 0, none⟩) (fun a ha => (hra a ha).1) _).set (p := ⟨w2.heap.size, 1, none⟩) (fun a ha => (hra a ha).1) _).set (p := ⟨w2.heap.size, 2, none⟩) (fun a ha => (hra a ha).1) _).set (p := ⟨w2.heap.size, 3, none⟩) (fun a ha => (hra a ha).1) _
            have hs9 : ((((wr.setCell ⟨w2.heap.size, 0, none⟩ (.bool nd)).setCell ⟨w2.heap.size, 1, none⟩ (.int .i64 nf)).setCell ⟨w2.heap.size, 2, none⟩ (.slice A6 q c6)).setCell ⟨w2.heap.size, 3, none⟩ (.bool nk)).heap.size = wr.heap.size := by simp
            have RB9 : Hid (∀ a, A6 = some a → a.block < ((((wr.setCell ⟨w2.heap.size, 0, none⟩ (.bool nd)).setCell ⟨w2.heap.size, 1, none⟩ (.int .i64 nf)).setCell ⟨w2.heap.size, 2, none⟩ (.slice A6 q c6)).setCell ⟨w2.heap.size, 3, none⟩ (.bool nk)).heap.size ∧ a.block ≠ w2.heap.size ∧ a.block ≠ w2.heap.size + 1) := fun a ha => ⟨by have := rb6.out a ha; omega, hra a ha⟩
            have BW9 : Hid (Below w2.heap.size w2 ((((wr.setCell ⟨w2.heap.size, 0, none⟩ (.bool nd)).setCell ⟨w2.heap.size, 1, none⟩ (.int .i64 nf)).setCell ⟨w2.heap.size, 2, none⟩ (.slice A6 q c6)).setCell ⟨w2.heap.size, 3, none⟩ (.bool nk))) := (((BWr.setCell (p := ⟨w2.heap.size, 0, none⟩) (by simp) _).setCell (p := ⟨w2.heap.size, 1, none⟩) (by simp) _).setCell (p := ⟨w2.heap.size, 2, none⟩) (by simp) _).setCell (p := ⟨w2.heap.size, 3, none⟩) (by simp) _
            have hw9 : w2.heap.size + 1 < ((((wr.setCell ⟨w2.heap.size, 0, none⟩ (.bool nd)).setCell ⟨w2.heap.size, 1, none⟩ (.int .i64 nf)).setCell ⟨w2.heap.size, 2, none⟩ (.slice A6 q c6)).setCell ⟨w2.heap.size, 3, none⟩ (.bool nk)).heap.size := by omega
            have hdf' := hdf.out
            generalize hixx : idxOf (d + 1) nh = ix at *
            generalize ps.any (holdsB TF) = sm at *
            have hlb2 : b < wr.heap.size := by omega
            have hlu : ux < wr.heap.size := by omega
            have hlt2 : w2.heap.size < wr.heap.size := by omega
            clear htn htp hom hra hs9 hixx KTr kur ho hg KT6 ku hdf hlq
            rcases hov with ⟨rfl, rfl, rfl⟩ | ⟨rfl, hkk, rfl, rfl⟩ | ⟨rfl, hkk, rfl, rfl⟩
            · obtain rfl : first = -1 := by
                rcases hdf' with ⟨_, h⟩ | ⟨h, _⟩
                · exact h
                · cases h
              by_cases hix : 0 ≤ nf
              · have HST9 : Hid ((decide (0 ≤ nf) = false ∧ nf = -1) ∨ (decide (0 ≤ nf) = true ∧ 0 ≤ nf ∧ nf < (q : Int))) := .inr ⟨decide_eq_true hix, hix, hixb.2⟩
                rw [decide_eq_true hix] at *
                have hne : (nf != nf) = false := by simp
                go_wp2
                go_roundw
                case rel => exact ⟨i + 1, _, _, longF TF ps LG, _, A6, c6, by omega, by go_num, rfl, HLNL, HLNB, HST9, KT9, HO9, RA9, RB9, BW9, hw9⟩
                case measure => simp [intOf]; omega
              · obtain rfl : nf = -1 := by omega
                have HST9 : Hid ((decide ((0 : Int) ≤ -1) = false ∧ (-1 : Int) = -1) ∨ (decide ((0 : Int) ≤ -1) = true ∧ (0 : Int) ≤ -1 ∧ (-1 : Int) < (q : Int))) := .inl ⟨by decide, rfl⟩
                rw [show decide ((0 : Int) ≤ -1) = false from by decide] at *
                clear hix
                go_wp2
                go_roundw
                case rel => exact ⟨i + 1, _, _, longF TF ps LG, _, A6, c6, by omega, by go_num, rfl, HLNL, HLNB, HST9, KT9, HO9, RA9, RB9, BW9, hw9⟩
                case measure => simp [intOf]; omega
            · have HST9 : Hid ((false = false ∧ (-1 : Int) = -1) ∨ (false = true ∧ (0 : Int) ≤ -1 ∧ (-1 : Int) < (q : Int))) := .inl ⟨rfl, rfl⟩
              simp only [Bool.and_eq_true, Bool.not_eq_true'] at hkk
              obtain ⟨⟨rfl, rfl⟩, rfl⟩ := hkk
              clear hdf' hixb
              go_wp2
              go_roundw
              case rel => exact ⟨i + 1, _, _, longF TF ps LG, _, A6, c6, by omega, by go_num, rfl, HLNL, HLNB, HST9, KT9, HO9, RA9, RB9, BW9, hw9⟩
              case measure => simp [intOf]; omega
            · have hff : 0 ≤ nf ∧ nf < (q : Int) := by
                rcases hdf' with ⟨h, _⟩ | ⟨_, h⟩
                · cases h
                · exact h
              have HST9 : Hid ((true = false ∧ nf = -1) ∨ (true = true ∧ 0 ≤ nf ∧ nf < (q : Int))) := .inr ⟨rfl, hff⟩
              have hne : (nf != nf) = false := by simp
              clear hdf' hixb hff
              cases nk
              · clear hkk
                go_wp2
                go_roundw
                case rel => exact ⟨i + 1, _, _, longF TF ps LG, _, A6, c6, by omega, by go_num, rfl, HLNL, HLNB, HST9, KT9, HO9, RA9, RB9, BW9, hw9⟩
                case measure => simp [intOf]; omega
              · cases tk
                · cases sm
                  · simp at hkk
                  · clear hkk
                    go_wp2
                    go_roundw
                    case rel => exact ⟨i + 1, _, _, longF TF ps LG, _, A6, c6, by omega, by go_num, rfl, HLNL, HLNB, HST9, KT9, HO9, RA9, RB9, BW9, hw9⟩
                    case measure => simp [intOf]; omega
                · clear hkk
                  go_wp2
                  go_roundw
                  case rel => exact ⟨i + 1, _, _, longF TF ps LG, _, A6, c6, by omega, by go_num, rfl, HLNL, HLNB, HST9, KT9, HO9, RA9, RB9, BW9, hw9⟩
                  case measure => simp [intOf]; omega
    · go_wp2
      go_ret
      exact ⟨rfl, B2.out.trans (hb.out.mono (by omega))⟩
end Go.Proofs.Ytdofkakbfolpkaa.Sf
