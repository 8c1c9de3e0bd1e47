/-
  The reference's Verify. Conditions: the code reads, within the reach.
-/
import Derived.Test.YtiogcbckhaknmaaDoorVp5
import Derived.Test.YtiogcbckhaknmaaDoorVf4
namespace Go.Proofs.YtiogcbckhaknmaaDoor.Vf
open Go.RowKit Go.Proofs.YtiogcbckhaknmaaDoor.W Go.Proofs.YtiogcbckhaknmaaDoor.Ints Go.Proofs.YtiogcbckhaknmaaDoor.Cod Go.Proofs.YtiogcbckhaknmaaDoor.Cell

def JAt (L : List LP) (x : IN) (m j : Nat) : Prop := x.op = 11 ∨ x.op = 12 → ∀ (j' : Nat) (l : LP), j' < j → L[j']? = some l → ¬ (inL l x.a ∧ ¬ inL l (m : Int))
theorem jat_snoc {L : List LP} {x : IN} {m j : Nat} {l : LP} (h : JAt L x m j) (hl : L[j]? = some l) (hn : x.op = 11 ∨ x.op = 12 → ¬ (inL l x.a ∧ ¬ inL l (m : Int))) : JAt L x m (j + 1) := by
  intro ho j' l' hj' hl'
  by_cases e : j' < j
  · exact h ho j' l' e hl'
  · obtain rfl : j' = j := by omega
    rw [hl] at hl'
    obtain rfl := Option.some.inj hl'
    exact hn ho
theorem jump_part {x : IN} : (x.op == 11 || x.op == 12) = decide (x.op = 11 ∨ x.op = 12) := by
  by_cases h1 : x.op = 11 <;> by_cases h2 : x.op = 12 <;> simp [h1, h2]
set_option maxRecDepth 100000 in
set_option maxHeartbeats 25600000 in
theorem VerifyR_any (A : Option Addr) (N c : Nat) (vs : List PV) (ps : List PD) (w : World) (hC : CRd w A N vs ps) (hok : ∀ p ∈ ps, p.ok) (hN : N * 96 ≤ 140737488351232) :
    Calls Tryd.prog 5 #[.agg #[.slice A N c]] w fun e w' => ∃ o, Out ps o ∧ OutR w w' e o := by
  obtain ⟨i0, hI0, hz0, hz1, hz2⟩ := info_parts int_info
  have HC := Lib.hid hC
  have HOK := Lib.hid hok
  have HLEN : Hid (ps.length = N) := hC.len
  clear hC hok
  go_enter Tryd.func5, Tryd.ntmps5
  go_upto_region 1 with fail
  have M0 := Lib.hid ((((Mem.start w).alloc 24 #[.slice A N c]).alloc 28 #[.int .i64 0, .int .i64 0, .int .i64 0]))
  simp only [World.size_alloc] at M0
  generalize World.alloc (World.alloc _ _) _ = w1 at M0 ⊢
  generalize w.heap.size = gb at M0 ⊢
  have x0 : w1.cell? ⟨gb, 0, none⟩ = some (.slice A N c) := M0.out.cellK 1 rfl 0
  by_cases h16 : 16 < N
  · have h16i : (16 : Int) < (N : Int) := by omega
    have HO := Lib.hid (Out.great (ps := ps) (by rw [HLEN.out]; exact h16))
    have bz := M0.out.cellK 0 rfl
    have fz := M0.out.frozenK 0 rfl
    have kz := (M0.out.ltK 0 rfl).2
    have MS := Lib.hid (((M0.out.set (i := 0) (.int .i64 12)).set (i := 1) (.int .i64 0)).set (i := 2) (.int .i64 0))
    clear M0
    go_wp2
    refine bodyPost_ret (v := .tuple #[.slice none 0 0, .agg #[.int .i64 12, .int .i64 0, .int .i64 0]]) ?_ rfl ?_
    · simp [results, Tryd.results5, go_sem, bz]
    · exact ⟨_, HO.out, OutR.nil 12 0 rfl MS.out.bel⟩
  · have h16i : ¬ (16 : Int) < (N : Int) := by omega
    have M1 : Hid (∃ Ks, Mem w w1 (⟨gb + 1, 28, #[.int .i64 0, .int .i64 0, .int .i64 0]⟩ :: ⟨gb, 24, #[.slice A N c]⟩ :: Ks) [⟨3, 1, none, 0, 0, ints (natL [])⟩]) := Lib.hid ⟨_, M0.out.nilO 3 1⟩
    clear M0
    go_wp2
    clear x0
    go_loopw [4, 5] (fun v4 v5 wr => ∃ (k cB : Nat) (bs : List Nat) (B : Option Addr), k ≤ N ∧ v5 = .int .i64 k ∧ v4 = .slice B k cB ∧ Hid (VerR ps k bs) ∧ Hid (∃ Ks, Mem w wr (⟨gb + 1, 28, #[.int .i64 0, .int .i64 0, .int .i64 0]⟩ :: ⟨gb, 24, #[.slice A N c]⟩ :: Ks) [⟨3, 1, B, k, cB, ints (natL bs)⟩])) (fun _ v5 _ => N - (intOf v5).toNat)
    case atStart => exact ⟨0, 0, [], none, Nat.zero_le _, rfl, rfl, Lib.hid (ver_zero ps), M1⟩
    case round =>
      clear M1
      obtain ⟨k, cB, bs, B, hk, rfl, rfl, HV, M1⟩ := hrel
      obtain ⟨Ks, M1⟩ := M1.out
      have M1 := Lib.hid M1
      have x0 : wr.cell? ⟨gb, 0, none⟩ = some (.slice A N c) := M1.out.cellK 1 rfl 0
      by_cases hlt : k < N
      · obtain ⟨b, o, v, p, rfl, hv, hp, hr, hbl, c0, c1, c2, c3, c4⟩ := (HC.out.below M1.out.bel).at hlt
        have HP := Lib.hid hp
        have HPV := Lib.hid (HC.out.each k v p hv hp)
        have hpk := HOK.out p (List.mem_of_getElem? hp)
        have q0 := hr.kind
        have q1 := hr.fl
        have q3 := hr.tl
        obtain ⟨vk, vname, fA, fn, fc, sA, sn, sc, tA, tn, tc⟩ := v
        dsimp only at q0 q1 q3 c0 c1 c2 c3 c4
        have hf8 : fn * 8 ≤ 140737488351232 := by rw [← q1]; exact hpk.2.2.2.2.2.1
        have ht8 : tn * 32 ≤ 140737488351232 := by rw [← q3]; exact hpk.2.2.2.2.2.2.2
        have HQ := Lib.hid (And.intro q0 (And.intro q1 q3))
        have hk0 : (0 : Int) ≤ (k : Int) := by omega
        have hkn : (k : Int) < (N : Int) := by omega
        clear hv hp hr hpk q0 q1 q3
        go_upto_region 8 with fail
        have M2 := Lib.hid (M1.out.alloc 43 #[.int .i64 vk, .string vname, .slice fA fn fc, .slice sA sn sc, .slice tA tn tc])
        clear x0 hbl c0 c1 c2 c3 c4 M1
        generalize World.alloc _ _ = w2 at M2 ⊢
        generalize wr.heap.size = g6 at M2 ⊢
        have y0 : w2.cell? ⟨g6, 0, none⟩ = some (.int .i64 vk) := M2.out.cellK 0 rfl 0
        have y2 : w2.cell? ⟨g6, 2, none⟩ = some (.slice fA fn fc) := M2.out.cellK 0 rfl 2
        have y4 : w2.cell? ⟨g6, 4, none⟩ = some (.slice tA tn tc) := M2.out.cellK 0 rfl 4
        go_cut [7] from 31 to 55 (fun v7 wz => v7 = .bool (headB p) ∧ w2 = wz)
        case first =>
          have hh : Hid (headB p = ((vk == 1 || (vk == 2 || vk == 3)) && (decide (fn ≤ 20000) && decide (tn ≤ 100000)))) := Lib.hid (by
            unfold headB
            rw [HQ.out.1, HQ.out.2.1, HQ.out.2.2])
          cases z1 : (vk == 1)
          · cases z2 : (vk == 2)
            · cases z3 : (vk == 3)
              · go_wp2
                go_meet
                refine ⟨?_, rfl⟩
                rw [hh.out]
                simp [z1, z2, z3]
              · by_cases hfk : fn ≤ 20000
                · have hfi : (fn : Int) ≤ 20000 := by omega
                  by_cases htk : tn ≤ 100000
                  · have hti : (tn : Int) ≤ 100000 := by omega
                    go_wp2
                    go_meet
                    refine ⟨?_, rfl⟩
                    rw [hh.out]
                    simp [z1, z2, z3, hfk, htk]
                  · have hti : ¬ (tn : Int) ≤ 100000 := by omega
                    go_wp2
                    go_meet
                    refine ⟨?_, rfl⟩
                    rw [hh.out]
                    simp [z1, z2, z3, hfk, htk]
                · have hfi : ¬ (fn : Int) ≤ 20000 := by omega
                  go_wp2
                  go_meet
                  refine ⟨?_, rfl⟩
                  rw [hh.out]
                  simp [z1, z2, z3, hfk]
            · by_cases hfk : fn ≤ 20000
              · have hfi : (fn : Int) ≤ 20000 := by omega
                by_cases htk : tn ≤ 100000
                · have hti : (tn : Int) ≤ 100000 := by omega
                  go_wp2
                  go_meet
                  refine ⟨?_, rfl⟩
                  rw [hh.out]
                  simp [z1, z2, hfk, htk]
                · have hti : ¬ (tn : Int) ≤ 100000 := by omega
                  go_wp2
                  go_meet
                  refine ⟨?_, rfl⟩
                  rw [hh.out]
                  simp [z1, z2, hfk, htk]
              · have hfi : ¬ (fn : Int) ≤ 20000 := by omega
                go_wp2
                go_meet
                refine ⟨?_, rfl⟩
                rw [hh.out]
                simp [z1, z2, hfk]
          · by_cases hfk : fn ≤ 20000
            · have hfi : (fn : Int) ≤ 20000 := by omega
              by_cases htk : tn ≤ 100000
              · have hti : (tn : Int) ≤ 100000 := by omega
                go_wp2
                go_meet
                refine ⟨?_, rfl⟩
                rw [hh.out]
                simp [z1, hfk, htk]
              · have hti : ¬ (tn : Int) ≤ 100000 := by omega
                go_wp2
                go_meet
                refine ⟨?_, rfl⟩
                rw [hh.out]
                simp [z1, hfk, htk]
            · have hfi : ¬ (fn : Int) ≤ 20000 := by omega
              go_wp2
              go_meet
              refine ⟨?_, rfl⟩
              rw [hh.out]
              simp [z1, hfk]
        case rest =>
          obtain ⟨rfl, hwz⟩ := hcut
          subst hwz
          clear y0 y2 y4
          obtain ⟨hb, hhb⟩ : ∃ hb, headB p = hb := ⟨_, rfl⟩
          rw [hhb]
          have HHB := Lib.hid hhb
          clear hhb
          have HCO : Hid (∀ w', Below w.heap.size w w' → CRd w' (some ⟨b, o, none⟩) N vs ps) := Lib.hid fun w' h => HC.out.below h
          have MQ : Hid (∃ Ks, Mem w w2 (⟨g6, 43, #[.int .i64 vk, .string vname, .slice fA fn fc, .slice sA sn sc, .slice tA tn tc]⟩ :: ⟨gb + 1, 28, #[.int .i64 0, .int .i64 0, .int .i64 0]⟩ :: ⟨gb, 24, #[.slice (some ⟨b, o, none⟩) N c]⟩ :: Ks) [⟨3, 1, B, k, cB, ints (natL bs)⟩]) := Lib.hid ⟨_, M2.out⟩
          clear M2
          have HINIT : Hid ((hb = true ∧ headB p = true ∧ AlTo ps k p 0) ∨ (hb = false ∧ ¬ (headB p = true ∧ AlTo ps k p p.text.length))) := Lib.hid (by
            rw [HHB.out]
            cases hb
            · exact .inr ⟨rfl, fun h => by cases h.1⟩
            · exact .inl ⟨rfl, rfl, fun i x hi => by omega⟩)
          go_wp2
          go_loopw [7, 8] (fun v7 v8 wr => ∃ (i : Nat) (ok : Bool), i ≤ tn ∧ v8 = .int .i64 i ∧ v7 = .bool ok ∧ Hid ((ok = true ∧ headB p = true ∧ AlTo ps k p i) ∨ (ok = false ∧ ¬ (headB p = true ∧ AlTo ps k p p.text.length))) ∧ Hid (∃ Ks, Mem w wr (⟨g6, 43, #[.int .i64 vk, .string vname, .slice fA fn fc, .slice sA sn sc, .slice tA tn tc]⟩ :: ⟨gb + 1, 28, #[.int .i64 0, .int .i64 0, .int .i64 0]⟩ :: ⟨gb, 24, #[.slice (some ⟨b, o, none⟩) N c]⟩ :: Ks) [⟨3, 1, B, k, cB, ints (natL bs)⟩])) (fun _ v8 _ => tn - (intOf v8).toNat)
          case atStart => exact ⟨0, hb, Nat.zero_le _, rfl, rfl, HINIT, MQ⟩
          case round =>
            clear MQ HINIT
            obtain ⟨i, ok, hi, rfl, rfl, HI, MQ⟩ := hrel
            obtain ⟨Ks', M2⟩ := MQ.out
            have M2 := Lib.hid M2
            clear MQ
            have y4 : wr.cell? ⟨g6, 4, none⟩ = some (.slice tA tn tc) := M2.out.cellK 0 rfl 4
            have x0 : wr.cell? ⟨gb, 0, none⟩ = some (.slice (some ⟨b, o, none⟩) N c) := M2.out.cellK 2 rfl 0
            have hi0 : (0 : Int) ≤ (i : Int) := by omega
            cases ok
            · -- an instruction that may not be
              have HB2 : Hid (¬ LookOk ps k p) := Lib.hid (fun h => by
                rcases HI.out with h1 | h1
                · cases h1.1
                · exact h1.2 ⟨h.head, h.alone⟩)
              have HO := Lib.hid (Out.bad (ps := ps) k bs p (by rw [HLEN.out]; omega) HV.out HP.out HB2.out)
              have bz := M2.out.cellK 1 rfl
              have fz := M2.out.frozenK 1 rfl
              have kz := (M2.out.ltK 1 rfl).2
              have MS := Lib.hid ((((M2.out.upK 1 rfl).set (i := 0) (.int .i64 12)).set (i := 1) (.int .i64 k)).set (i := 2) (.int .i64 0))
              clear M2
              go_wp2
              refine bodyPost_ret (v := .tuple #[.slice none 0 0, .agg #[.int .i64 12, .int .i64 k, .int .i64 0]]) ?_ rfl ?_
              · simp [results, Tryd.results5, go_sem, bz]
              · exact ⟨_, HO.out, OutR.nil 12 k rfl MS.out.bel⟩
            · by_cases hit : i < tn
              · have hit2 : (i : Int) < (tn : Int) := by omega
                obtain ⟨x, hx⟩ : ∃ x, p.text[i]? = some x := ⟨_, List.getElem?_eq_getElem (by rw [HQ.out.2.2]; exact hit)⟩
                have HX := Lib.hid hx
                clear hx
                go_wp2_with fail
                refine (instrOk_any (some ⟨b, o, none⟩) N c vs ps k i x p wr (HCO.out _ M2.out.bel) HOK.out hN HP.out HX.out).mono ?_
                rintro e w5 ⟨rfl, hb5⟩
                dsimp only
                have M3 : Hid (∃ Ks, Mem w w5 (⟨g6, 43, #[.int .i64 vk, .string vname, .slice fA fn fc, .slice sA sn sc, .slice tA tn tc]⟩ :: ⟨gb + 1, 28, #[.int .i64 0, .int .i64 0, .int .i64 0]⟩ :: ⟨gb, 24, #[.slice (some ⟨b, o, none⟩) N c]⟩ :: Ks) [⟨3, 1, B, k, cB, ints (natL bs)⟩]) := Lib.hid ⟨_, M2.out.below hb5⟩
                clear hb5 M2 y4 x0
                obtain ⟨ab, hab⟩ : ∃ ab, aloneB ps k i p.first.length p.text.length x = ab := ⟨_, rfl⟩
                rw [hab]
                have HN : Hid ((ab = true ∧ headB p = true ∧ AlTo ps k p (i + 1)) ∨ (ab = false ∧ ¬ (headB p = true ∧ AlTo ps k p p.text.length))) := Lib.hid (by
                  rcases HI.out with h1 | h1
                  · cases hq : ab
                    · refine .inr ⟨rfl, fun h => ?_⟩
                      have := h.2 i x (by rw [HQ.out.2.2]; exact hit) HX.out
                      rw [hab, hq] at this
                      cases this
                    · refine .inl ⟨rfl, h1.2.1, fun i' x' hi' hx' => ?_⟩
                      by_cases e : i' < i
                      · exact h1.2.2 i' x' e hx'
                      · obtain rfl : i' = i := by omega
                        rw [HX.out] at hx'
                        obtain rfl := Option.some.inj hx'
                        rw [hab, hq]
                  · cases h1.1)
                clear hab
                go_wp2
                go_roundw
                case rel => exact ⟨i + 1, ab, by omega, by go_num, rfl, HN, M3⟩
                case measure => simp [intOf]; omega
              · obtain rfl : i = tn := by omega
                have hii : ¬ (i : Int) < (i : Int) := by omega
                have HAL : Hid (headB p = true ∧ AlTo ps k p p.text.length) := Lib.hid (by
                  rcases HI.out with h1 | h1
                  · exact ⟨h1.2.1, by rw [HQ.out.2.2]; exact h1.2.2⟩
                  · cases h1.1)
                obtain ⟨hp1, hp2⟩ := head_parts HAL.out.1
                rw [HQ.out.2.2] at hp2
                rw [HQ.out.2.1] at hp1
                have HTR : Hid (∀ w', Below w.heap.size w w' → Rd w' 4 tA i (textV p.text)) := Lib.hid fun w' h => HPV.out.text.below h
                go_wp2_with fail
                refine (LoopsR_any tA i tc p.text wr (HTR.out _ M2.out.bel) hp2).mono ?_
                rintro e w5 (⟨hgood, L5, c5, rfl, hm⟩ | ⟨hno, rfl, hb5⟩)
                · dsimp only
                  have HG := Lib.hid hgood
                  have M3 : Hid (∃ Ks, Mem w w5 (⟨g6, 43, #[.int .i64 vk, .string vname, .slice fA fn fc, .slice sA sn sc, .slice tA i tc]⟩ :: ⟨gb + 1, 28, #[.int .i64 0, .int .i64 0, .int .i64 0]⟩ :: ⟨gb, 24, #[.slice (some ⟨b, o, none⟩) N c]⟩ :: Ks) [⟨53, 4, L5, (loopsTo p.text i).length, c5, loopsV (loopsTo p.text i)⟩, ⟨3, 1, B, k, cB, ints (natL bs)⟩]) := Lib.hid ⟨_, M2.out.join hm⟩
                  clear hm M2 hgood y4 x0
                  have hlen := loops_len (T := p.text) i
                  have HLL : Hid (loopsTo p.text p.text.length = loopsTo p.text i) := Lib.hid (by rw [HQ.out.2.2])
                  obtain ⟨L, hL⟩ : ∃ L, loopsTo p.text i = L := ⟨_, rfl⟩
                  rw [hL] at M3 hlen HLL ⊢
                  obtain ⟨q, hq⟩ : ∃ q, L.length = q := ⟨_, rfl⟩
                  rw [hq] at M3 hlen ⊢
                  have HLQ := Lib.hid (And.intro hL hq)
                  clear hL hq
                  go_wp2
                  go_loopw [7, 10] (fun v7 v10 wr => ∃ (m : Nat) (ok : Bool), m ≤ i ∧ v10 = .int .i64 m ∧ v7 = .bool ok ∧ Hid ((ok = true ∧ JumpsOk p.text L m) ∨ (ok = false ∧ ¬ JumpsOk p.text L i)) ∧ Hid (∃ Ks, Mem w wr (⟨g6, 43, #[.int .i64 vk, .string vname, .slice fA fn fc, .slice sA sn sc, .slice tA i tc]⟩ :: ⟨gb + 1, 28, #[.int .i64 0, .int .i64 0, .int .i64 0]⟩ :: ⟨gb, 24, #[.slice (some ⟨b, o, none⟩) N c]⟩ :: Ks) [⟨53, 4, L5, q, c5, loopsV L⟩, ⟨3, 1, B, k, cB, ints (natL bs)⟩])) (fun _ v10 _ => i - (intOf v10).toNat)
                  case atStart => exact ⟨0, true, Nat.zero_le _, rfl, rfl, Lib.hid (.inl ⟨rfl, fun i x hi => by omega⟩), M3⟩
                  case round =>
                    clear M3
                    obtain ⟨m, ok, hm, rfl, rfl, HJ, M3⟩ := hrel
                    obtain ⟨Ks'', M4⟩ := M3.out
                    have M4 := Lib.hid M4
                    clear M3
                    have y4 : wr.cell? ⟨g6, 4, none⟩ = some (.slice tA i tc) := M4.out.cellK 0 rfl 4
                    have hm0 : (0 : Int) ≤ (m : Int) := by omega
                    cases ok
                    · have HB2 : Hid (¬ LookOk ps k p) := Lib.hid (fun h => by
                        rcases HJ.out with h1 | h1
                        · cases h1.1
                        · have := h.jumps
                          rw [HLL.out, HQ.out.2.2] at this
                          exact h1.2 this)
                      have HO := Lib.hid (Out.bad (ps := ps) k bs p (by rw [HLEN.out]; omega) HV.out HP.out HB2.out)
                      have bz := M4.out.cellK 1 rfl
                      have fz := M4.out.frozenK 1 rfl
                      have kz := (M4.out.ltK 1 rfl).2
                      have MS := Lib.hid ((((M4.out.upK 1 rfl).set (i := 0) (.int .i64 12)).set (i := 1) (.int .i64 k)).set (i := 2) (.int .i64 0))
                      clear M4
                      go_wp2
                      refine bodyPost_ret (v := .tuple #[.slice none 0 0, .agg #[.int .i64 12, .int .i64 k, .int .i64 0]]) ?_ rfl ?_
                      · simp [results, Tryd.results5, go_sem, bz]
                      · exact ⟨_, HO.out, OutR.nil 12 k rfl MS.out.bel⟩
                    · by_cases hmi : m < i
                      · have hmi2 : (m : Int) < (i : Int) := by omega
                        obtain ⟨b3, o3, x, rfl, hx, hbl, d0, d1, d2, d3⟩ := instr_at (HTR.out _ M4.out.bel) hmi
                        have HX := Lib.hid hx
                        clear hx
                        have M5 := Lib.hid (M4.out.alloc 50 #[.int .i64 x.op, .int .i64 x.a, .int .i64 x.b, .int .i64 x.c])
                        clear M4
                        go_upto_region 20 with fail
                        clear hbl d0 d1 d2 d3 y4
                        generalize World.alloc _ _ = w6 at M5 ⊢
                        generalize wr.heap.size = g11 at M5 ⊢
                        have M6 : Hid (∃ Ks, Mem w w6 (⟨g11, 50, #[.int .i64 x.op, .int .i64 x.a, .int .i64 x.b, .int .i64 x.c]⟩ :: ⟨g6, 43, #[.int .i64 vk, .string vname, .slice fA fn fc, .slice sA sn sc, .slice (some ⟨b3, o3, none⟩) i tc]⟩ :: ⟨gb + 1, 28, #[.int .i64 0, .int .i64 0, .int .i64 0]⟩ :: ⟨gb, 24, #[.slice (some ⟨b, o, none⟩) N c]⟩ :: Ks) [⟨53, 4, L5, q, c5, loopsV L⟩, ⟨3, 1, B, k, cB, ints (natL bs)⟩]) := Lib.hid ⟨_, M5.out⟩
                        clear M5
                        go_wp2
                        go_loopw [7, 12] (fun v7 v12 wr => ∃ (j : Nat) (ok : Bool), j ≤ q ∧ v12 = .int .i64 j ∧ v7 = .bool ok ∧ Hid ((ok = true ∧ JAt L x m j) ∨ (ok = false ∧ ¬ JAt L x m q)) ∧ Hid (∃ Ks, Mem w wr (⟨g11, 50, #[.int .i64 x.op, .int .i64 x.a, .int .i64 x.b, .int .i64 x.c]⟩ :: ⟨g6, 43, #[.int .i64 vk, .string vname, .slice fA fn fc, .slice sA sn sc, .slice (some ⟨b3, o3, none⟩) i tc]⟩ :: ⟨gb + 1, 28, #[.int .i64 0, .int .i64 0, .int .i64 0]⟩ :: ⟨gb, 24, #[.slice (some ⟨b, o, none⟩) N c]⟩ :: Ks) [⟨53, 4, L5, q, c5, loopsV L⟩, ⟨3, 1, B, k, cB, ints (natL bs)⟩])) (fun _ v12 _ => q - (intOf v12).toNat)
                        case atStart => exact ⟨0, true, Nat.zero_le _, rfl, rfl, Lib.hid (.inl ⟨rfl, fun _ j' l hj => by omega⟩), M6⟩
                        case round =>
                          clear M6
                          obtain ⟨j, ok, hj, rfl, rfl, HA, M6⟩ := hrel
                          obtain ⟨Ks3, M7⟩ := M6.out
                          have M7 := Lib.hid M7
                          by_cases hjq : j < q
                          · have hjq2 : (j : Int) < (q : Int) := by omega
                            have hj0 : (0 : Int) ≤ (j : Int) := by omega
                            obtain ⟨b5, o5, l, rfl, hl, _, e0, e1, e2, e3⟩ := loop_at (M7.out.rdO 0 rfl) hjq
                            have HL := Lib.hid hl
                            clear hl M6
                            have N0 := Lib.hid M7.out.drew
                            have sE : wr.drew.cell? ⟨g11, 0, none⟩ = some (.int .i64 x.op) ∧ wr.drew.cell? ⟨g11, 1, none⟩ = some (.int .i64 x.a) ∧ wr.drew.cell? ⟨b5, o5 + j * 4, none⟩ = some (.int .i64 l.fr) ∧ wr.drew.cell? ⟨b5, o5 + j * 4 + 1, none⟩ = some (.int .i64 l.to) ∧ wr.drew.cell? ⟨b5, o5 + j * 4 + 2, none⟩ = some (.int .i64 l.counter) ∧ wr.drew.cell? ⟨b5, o5 + j * 4 + 3, none⟩ = some (.int .i64 l.times) := ⟨N0.out.cellK 0 rfl 0, N0.out.cellK 0 rfl 1, e0, e1, e2, e3⟩
                            clear M7 e0 e1 e2 e3
                            have HLW : Hid (∀ w', Below wr.drew.heap.size wr.drew w' → (w'.cell? ⟨g11, 0, none⟩ = some (.int .i64 x.op) ∧ w'.cell? ⟨g11, 1, none⟩ = some (.int .i64 x.a) ∧ w'.cell? ⟨b5, o5 + j * 4, none⟩ = some (.int .i64 l.fr) ∧ w'.cell? ⟨b5, o5 + j * 4 + 1, none⟩ = some (.int .i64 l.to) ∧ w'.cell? ⟨b5, o5 + j * 4 + 2, none⟩ = some (.int .i64 l.counter) ∧ w'.cell? ⟨b5, o5 + j * 4 + 3, none⟩ = some (.int .i64 l.times))) := by
                              obtain ⟨s0, s1, s2, s3, s4, s5⟩ := sE
                              exact Lib.hid fun w' hb => ⟨(hb.cell (lt_of_cell s0)).trans s0, (hb.cell (lt_of_cell s1)).trans s1, (hb.cell (lt_of_cell s2)).trans s2, (hb.cell (lt_of_cell s3)).trans s3, (hb.cell (lt_of_cell s4)).trans s4, (hb.cell (lt_of_cell s5)).trans s5⟩
                            by_cases h11 : x.op = 11
                            · have z11 : (x.op == 11) = true := by simp [h11]
                              have HJP : Hid (x.op = 11 ∨ x.op = 12) := Lib.hid (.inl h11)
                              clear h11
                              by_cases ha : inL l x.a
                              · have za : decide (inL l x.a) = true := decide_eq_true ha
                                have HA1 := Lib.hid ha
                                clear ha
                                go_upto_region 23 with fail
                                by_cases hb : inL l (m : Int)
                                · have zb : decide (inL l (m : Int)) = true := decide_eq_true hb
                                  have HB2 := Lib.hid hb
                                  clear hb
                                  refine wp_region_held_drew (S := fun w' => w'.cell? ⟨g11, 0, none⟩ = some (.int .i64 x.op) ∧ w'.cell? ⟨g11, 1, none⟩ = some (.int .i64 x.a) ∧ w'.cell? ⟨b5, o5 + j * 4, none⟩ = some (.int .i64 l.fr) ∧ w'.cell? ⟨b5, o5 + j * 4 + 1, none⟩ = some (.int .i64 l.to) ∧ w'.cell? ⟨b5, o5 + j * 4 + 2, none⟩ = some (.int .i64 l.counter) ∧ w'.cell? ⟨b5, o5 + j * 4 + 3, none⟩ = some (.int .i64 l.times)) (by kernel_rfl) ?_ (fun hHeld => ?_)
                                  · exact sE
                                  refine wpAnyH_take (i := 0) (v := ?_) rfl (by kernel_rfl) (by kernel_rfl) (by kernel_rfl) (fun _ _ _ h => h) (Or.inl ⟨by rfl, ?_⟩) (by assumption) ?_
                                  rotate_left
                                  · intro w' hSw
                                    (try dsimp only at hSw)
                                    go_simp
                                    try with_reducible rfl
                                  try simp only [Act.put, List.getElem_toArray, List.getElem_cons_zero, List.setIfInBounds_toArray, List.set_cons_zero, List.set_cons_succ]
                                  refine wpAnyH_take (i := 1) (v := ?_) rfl (by kernel_rfl) (by kernel_rfl) (by kernel_rfl) (fun _ _ _ h => h) (Or.inl ⟨by rfl, ?_⟩) (by assumption) ?_
                                  rotate_left
                                  · intro w' hSw
                                    (try dsimp only at hSw)
                                    go_simp
                                    try with_reducible rfl
                                  try simp only [Act.put, List.getElem_toArray, List.getElem_cons_zero, List.getElem_cons_succ, List.setIfInBounds_toArray, List.set_cons_zero, List.set_cons_succ]
                                  refine wpAnyH_take (i := 2) (v := ?_) rfl (by kernel_rfl) (by kernel_rfl) (by kernel_rfl) (fun _ _ _ h => h) (Or.inl ⟨by rfl, ?_⟩) (by assumption) ?_
                                  rotate_left
                                  · intro w' hSw
                                    (try dsimp only at hSw)
                                    go_simp
                                    try with_reducible rfl
                                  try simp only [Act.put, List.getElem_toArray, List.getElem_cons_zero, List.getElem_cons_succ, List.setIfInBounds_toArray, List.set_cons_zero, List.set_cons_succ]
                                  refine wpAnyH_take (i := 3) (v := ?_) rfl (by kernel_rfl) (by kernel_rfl) (by kernel_rfl) (fun _ _ _ h => h) (Or.inl ⟨by rfl, ?_⟩) (by assumption) ?_
                                  rotate_left
                                  · intro w' hSw
                                    (try dsimp only at hSw)
                                    go_simp
                                    try with_reducible rfl
                                  try simp only [Act.put, List.getElem_toArray, List.getElem_cons_zero, List.getElem_cons_succ, List.setIfInBounds_toArray, List.set_cons_zero, List.set_cons_succ]
                                  refine wpAnyH_take (i := 4) (v := undef) rfl (by kernel_rfl) (by kernel_rfl) (by kernel_rfl) (fun _ _ _ h => h) (Or.inr ⟨by rfl, rfl⟩) (by assumption) ?_
                                  try simp only [Act.put, List.getElem_toArray, List.getElem_cons_zero, List.getElem_cons_succ, List.setIfInBounds_toArray, List.set_cons_zero, List.set_cons_succ]
                                  refine wpAnyH_take (i := 5) (v := undef) rfl (by kernel_rfl) (by kernel_rfl) (by kernel_rfl) (fun _ _ _ h => h) (Or.inr ⟨by rfl, rfl⟩) (by assumption) ?_
                                  try simp only [Act.put, List.getElem_toArray, List.getElem_cons_zero, List.getElem_cons_succ, List.setIfInBounds_toArray, List.set_cons_zero, List.set_cons_succ]
                                  refine wpAnyH_take (i := 6) (v := undef) rfl (by kernel_rfl) (by kernel_rfl) (by kernel_rfl) (fun _ _ _ h => h) (Or.inr ⟨by rfl, rfl⟩) (by assumption) ?_
                                  try simp only [Act.put, List.getElem_toArray, List.getElem_cons_zero, List.getElem_cons_succ, List.setIfInBounds_toArray, List.set_cons_zero, List.set_cons_succ]
                                  refine wpAnyH_take (i := 7) (v := ?_) rfl (by kernel_rfl) (by kernel_rfl) (by kernel_rfl) (fun _ _ _ h => h) (Or.inl ⟨by rfl, ?_⟩) (by assumption) ?_
                                  rotate_left
                                  · intro w' hSw
                                    (try dsimp only at hSw)
                                    go_simp
                                    try with_reducible rfl
                                  try simp only [Act.put, List.getElem_toArray, List.getElem_cons_zero, List.getElem_cons_succ, List.setIfInBounds_toArray, List.set_cons_zero, List.set_cons_succ]
                                  refine wpAnyH_take (i := 8) (v := ?_) rfl (by kernel_rfl) (by kernel_rfl) (by kernel_rfl) (fun _ _ _ h => h) (Or.inl ⟨by rfl, ?_⟩) (by assumption) ?_
                                  rotate_left
                                  · intro w' hSw
                                    (try dsimp only at hSw)
                                    go_simp
                                    try with_reducible rfl
                                  try simp only [Act.put, List.getElem_toArray, List.getElem_cons_zero, List.getElem_cons_succ, List.setIfInBounds_toArray, List.set_cons_zero, List.set_cons_succ]
                                  refine wpAnyH_take (i := 9) (v := ?_) rfl (by kernel_rfl) (by kernel_rfl) (by kernel_rfl) (fun _ _ _ h => h) (Or.inl ⟨by rfl, ?_⟩) (by assumption) ?_
                                  rotate_left
                                  · intro w' hSw
                                    (try dsimp only at hSw)
                                    go_simp
                                    try with_reducible rfl
                                  try simp only [Act.put, List.getElem_toArray, List.getElem_cons_zero, List.getElem_cons_succ, List.setIfInBounds_toArray, List.set_cons_zero, List.set_cons_succ]
                                  refine wpAnyH_take (i := 10) (v := ?_) rfl (by kernel_rfl) (by kernel_rfl) (by kernel_rfl) (fun _ _ _ h => h) (Or.inl ⟨by rfl, ?_⟩) (by assumption) ?_
                                  rotate_left
                                  · intro w' hSw
                                    (try dsimp only at hSw)
                                    go_simp
                                    try with_reducible rfl
                                  try simp only [Act.put, List.getElem_toArray, List.getElem_cons_zero, List.getElem_cons_succ, List.setIfInBounds_toArray, List.set_cons_zero, List.set_cons_succ]
                                  refine wpAnyH_take (i := 11) (v := ?_) rfl (by kernel_rfl) (by kernel_rfl) (by kernel_rfl) (fun _ _ _ h => h) (Or.inl ⟨by rfl, ?_⟩) (by assumption) ?_
                                  rotate_left
                                  · intro w' hSw
                                    (try dsimp only at hSw)
                                    go_simp
                                    try with_reducible rfl
                                  try simp only [Act.put, List.getElem_toArray, List.getElem_cons_zero, List.getElem_cons_succ, List.setIfInBounds_toArray, List.set_cons_zero, List.set_cons_succ]
                                  refine wpAnyH_take (i := 12) (v := ?_) rfl (by kernel_rfl) (by kernel_rfl) (by kernel_rfl) (fun _ _ _ h => h) (Or.inl ⟨by rfl, ?_⟩) (by assumption) ?_
                                  rotate_left
                                  · intro w' hSw
                                    (try dsimp only at hSw)
                                    go_simp
                                    try with_reducible rfl
                                  try simp only [Act.put, List.getElem_toArray, List.getElem_cons_zero, List.getElem_cons_succ, List.setIfInBounds_toArray, List.set_cons_zero, List.set_cons_succ]
                                  refine wpAnyH_take (i := 13) (v := ?_) rfl (by kernel_rfl) (by kernel_rfl) (by kernel_rfl) (fun _ _ _ h => h) (Or.inl ⟨by rfl, ?_⟩) (by assumption) ?_
                                  rotate_left
                                  · intro w' hSw
                                    (try dsimp only at hSw)
                                    go_simp
                                    try with_reducible rfl
                                  try simp only [Act.put, List.getElem_toArray, List.getElem_cons_zero, List.getElem_cons_succ, List.setIfInBounds_toArray, List.set_cons_zero, List.set_cons_succ]
                                  refine wpAnyH_take (i := 14) (v := ?_) rfl (by kernel_rfl) (by kernel_rfl) (by kernel_rfl) (fun _ _ _ h => h) (Or.inl ⟨by rfl, ?_⟩) (by assumption) ?_
                                  rotate_left
                                  · intro w' hSw
                                    (try dsimp only at hSw)
                                    go_simp
                                    try with_reducible rfl
                                  try simp only [Act.put, List.getElem_toArray, List.getElem_cons_zero, List.getElem_cons_succ, List.setIfInBounds_toArray, List.set_cons_zero, List.set_cons_succ]
                                  refine wpAnyH_ready (rs := [15]) (by kernel_rfl) (by simp) ?_
                                  refine (AllReadyH.cons rfl (fun K hK => ?_) AllReadyH.nil)
                                  have HKK := Lib.hid hK
                                  clear hK
                                  go_simp
                                  refine (inLoop_any l x.a _).mono ?_
                                  rintro e w8 ⟨rfl, hb8⟩
                                  try dsimp only
                                  rw [za]
                                  have N1 := Lib.hid (N0.out.below hb8)
                                  have HB1 : Hid (Below wr.drew.heap.size wr.drew w8) := hb8
                                  have s1 := HLW.out _ hb8
                                  clear hb8
                                  refine HKK.out _ _ s1 (fun hHeld => ?_)
                                  clear HKK K
                                  try simp only [Act.put, List.getElem_toArray, List.getElem_cons_zero, List.getElem_cons_succ, List.setIfInBounds_toArray, List.set_cons_zero, List.set_cons_succ]
                                  refine wpAnyH_take (i := 16) (v := ?_) rfl (by kernel_rfl) (by kernel_rfl) (by kernel_rfl) (fun _ _ _ h => h) (Or.inl ⟨by rfl, ?_⟩) (by assumption) ?_
                                  rotate_left
                                  · intro w' hSw
                                    (try dsimp only at hSw)
                                    go_simp
                                    try with_reducible rfl
                                  try simp only [Act.put, List.getElem_toArray, List.getElem_cons_zero, List.getElem_cons_succ, List.setIfInBounds_toArray, List.set_cons_zero, List.set_cons_succ]
                                  refine wpAnyH_take (i := 17) (v := ?_) rfl (by kernel_rfl) (by kernel_rfl) (by kernel_rfl) (fun _ _ _ h => h) (Or.inl ⟨by rfl, ?_⟩) (by assumption) ?_
                                  rotate_left
                                  · intro w' hSw
                                    (try dsimp only at hSw)
                                    go_simp
                                    try with_reducible rfl
                                  try simp only [Act.put, List.getElem_toArray, List.getElem_cons_zero, List.getElem_cons_succ, List.setIfInBounds_toArray, List.set_cons_zero, List.set_cons_succ]
                                  refine wpAnyH_take (i := 18) (v := ?_) rfl (by kernel_rfl) (by kernel_rfl) (by kernel_rfl) (fun _ _ _ h => h) (Or.inl ⟨by rfl, ?_⟩) (by assumption) ?_
                                  rotate_left
                                  · intro w' hSw
                                    (try dsimp only at hSw)
                                    go_simp
                                    try with_reducible rfl
                                  try simp only [Act.put, List.getElem_toArray, List.getElem_cons_zero, List.getElem_cons_succ, List.setIfInBounds_toArray, List.set_cons_zero, List.set_cons_succ]
                                  refine wpAnyH_take (i := 19) (v := ?_) rfl (by kernel_rfl) (by kernel_rfl) (by kernel_rfl) (fun _ _ _ h => h) (Or.inl ⟨by rfl, ?_⟩) (by assumption) ?_
                                  rotate_left
                                  · intro w' hSw
                                    (try dsimp only at hSw)
                                    go_simp
                                    try with_reducible rfl
                                  try simp only [Act.put, List.getElem_toArray, List.getElem_cons_zero, List.getElem_cons_succ, List.setIfInBounds_toArray, List.set_cons_zero, List.set_cons_succ]
                                  refine wpAnyH_take (i := 20) (v := ?_) rfl (by kernel_rfl) (by kernel_rfl) (by kernel_rfl) (fun _ _ _ h => h) (Or.inl ⟨by rfl, ?_⟩) (by assumption) ?_
                                  rotate_left
                                  · intro w' hSw
                                    (try dsimp only at hSw)
                                    go_simp
                                    try with_reducible rfl
                                  try simp only [Act.put, List.getElem_toArray, List.getElem_cons_zero, List.getElem_cons_succ, List.setIfInBounds_toArray, List.set_cons_zero, List.set_cons_succ]
                                  refine wpAnyH_take (i := 21) (v := ?_) rfl (by kernel_rfl) (by kernel_rfl) (by kernel_rfl) (fun _ _ _ h => h) (Or.inl ⟨by rfl, ?_⟩) (by assumption) ?_
                                  rotate_left
                                  · intro w' hSw
                                    (try dsimp only at hSw)
                                    go_simp
                                    try with_reducible rfl
                                  try simp only [Act.put, List.getElem_toArray, List.getElem_cons_zero, List.getElem_cons_succ, List.setIfInBounds_toArray, List.set_cons_zero, List.set_cons_succ]
                                  refine wpAnyH_take (i := 22) (v := ?_) rfl (by kernel_rfl) (by kernel_rfl) (by kernel_rfl) (fun _ _ _ h => h) (Or.inl ⟨by rfl, ?_⟩) (by assumption) ?_
                                  rotate_left
                                  · intro w' hSw
                                    (try dsimp only at hSw)
                                    go_simp
                                    try with_reducible rfl
                                  try simp only [Act.put, List.getElem_toArray, List.getElem_cons_zero, List.getElem_cons_succ, List.setIfInBounds_toArray, List.set_cons_zero, List.set_cons_succ]
                                  refine wpAnyH_ready (rs := [23]) (by kernel_rfl) (by simp) ?_
                                  refine (AllReadyH.cons rfl (fun K hK => ?_) AllReadyH.nil)
                                  have HKK := Lib.hid hK
                                  clear hK
                                  go_simp
                                  refine (inLoop_any l (m : Int) _).mono ?_
                                  rintro e w9 ⟨rfl, hb9⟩
                                  try dsimp only
                                  rw [zb]
                                  have N2 := Lib.hid (N1.out.below hb9)
                                  have s2 := HLW.out _ (HB1.out.trans (hb9.mono HB1.out.size))
                                  clear hb9
                                  refine HKK.out _ _ s2 (fun hHeld => ?_)
                                  clear HKK K
                                  try simp only [Act.put, List.getElem_toArray, List.getElem_cons_zero, List.getElem_cons_succ, List.setIfInBounds_toArray, List.set_cons_zero, List.set_cons_succ]
                                  refine wpAnyH_take (i := 24) (v := ?_) rfl (by kernel_rfl) (by kernel_rfl) (by kernel_rfl) (fun _ _ _ h => h) (Or.inl ⟨by rfl, ?_⟩) (by assumption) ?_
                                  rotate_left
                                  · intro w' hSw
                                    (try dsimp only at hSw)
                                    go_simp
                                    try with_reducible rfl
                                  try simp only [Act.put, List.getElem_toArray, List.getElem_cons_zero, List.getElem_cons_succ, List.setIfInBounds_toArray, List.set_cons_zero, List.set_cons_succ]
                                  refine wpAnyH_take (i := 25) (v := ?_) rfl (by kernel_rfl) (by kernel_rfl) (by kernel_rfl) (fun _ _ _ h => h) (Or.inl ⟨by rfl, ?_⟩) (by assumption) ?_
                                  rotate_left
                                  · intro w' hSw
                                    (try dsimp only at hSw)
                                    go_simp
                                    try with_reducible rfl
                                  try simp only [Act.put, List.getElem_toArray, List.getElem_cons_zero, List.getElem_cons_succ, List.setIfInBounds_toArray, List.set_cons_zero, List.set_cons_succ]
                                  refine wpAnyH_done (by kernel_rfl) ?_ _
                                  have MN : Hid (∃ Ks, Mem w w9 (⟨g11, 50, #[.int .i64 x.op, .int .i64 x.a, .int .i64 x.b, .int .i64 x.c]⟩ :: ⟨g6, 43, #[.int .i64 vk, .string vname, .slice fA fn fc, .slice sA sn sc, .slice (some ⟨b3, o3, none⟩) i tc]⟩ :: ⟨gb + 1, 28, #[.int .i64 0, .int .i64 0, .int .i64 0]⟩ :: ⟨gb, 24, #[.slice (some ⟨b, o, none⟩) N c]⟩ :: Ks) [⟨53, 4, some ⟨b5, o5, none⟩, q, c5, loopsV L⟩, ⟨3, 1, B, k, cB, ints (natL bs)⟩]) := Lib.hid ⟨_, N2.out⟩
                                  have HN : Hid ((ok = true ∧ JAt L x m (j + 1)) ∨ (ok = false ∧ ¬ JAt L x m q)) := Lib.hid (HA.out.imp (fun h => ⟨h.1, jat_snoc h.2 HL.out (fun _ h => h.2 HB2.out)⟩) (fun h => h))
                                  clear hHeld sE s1 s2
                                  go_wp2
                                  go_roundw
                                  case rel => exact ⟨j + 1, ok, by omega, by go_num, rfl, HN, MN⟩
                                  case measure => simp [intOf]; omega
                                · have zb : decide (inL l (m : Int)) = false := decide_eq_false hb
                                  have HB2 := Lib.hid hb
                                  clear hb
                                  refine wp_region_held_drew (S := fun w' => w'.cell? ⟨g11, 0, none⟩ = some (.int .i64 x.op) ∧ w'.cell? ⟨g11, 1, none⟩ = some (.int .i64 x.a) ∧ w'.cell? ⟨b5, o5 + j * 4, none⟩ = some (.int .i64 l.fr) ∧ w'.cell? ⟨b5, o5 + j * 4 + 1, none⟩ = some (.int .i64 l.to) ∧ w'.cell? ⟨b5, o5 + j * 4 + 2, none⟩ = some (.int .i64 l.counter) ∧ w'.cell? ⟨b5, o5 + j * 4 + 3, none⟩ = some (.int .i64 l.times)) (by kernel_rfl) ?_ (fun hHeld => ?_)
                                  · exact sE
                                  refine wpAnyH_take (i := 0) (v := ?_) rfl (by kernel_rfl) (by kernel_rfl) (by kernel_rfl) (fun _ _ _ h => h) (Or.inl ⟨by rfl, ?_⟩) (by assumption) ?_
                                  rotate_left
                                  · intro w' hSw
                                    (try dsimp only at hSw)
                                    go_simp
                                    try with_reducible rfl
                                  try simp only [Act.put, List.getElem_toArray, List.getElem_cons_zero, List.setIfInBounds_toArray, List.set_cons_zero, List.set_cons_succ]
                                  refine wpAnyH_take (i := 1) (v := ?_) rfl (by kernel_rfl) (by kernel_rfl) (by kernel_rfl) (fun _ _ _ h => h) (Or.inl ⟨by rfl, ?_⟩) (by assumption) ?_
                                  rotate_left
                                  · intro w' hSw
                                    (try dsimp only at hSw)
                                    go_simp
                                    try with_reducible rfl
                                  try simp only [Act.put, List.getElem_toArray, List.getElem_cons_zero, List.getElem_cons_succ, List.setIfInBounds_toArray, List.set_cons_zero, List.set_cons_succ]
                                  refine wpAnyH_take (i := 2) (v := ?_) rfl (by kernel_rfl) (by kernel_rfl) (by kernel_rfl) (fun _ _ _ h => h) (Or.inl ⟨by rfl, ?_⟩) (by assumption) ?_
                                  rotate_left
                                  · intro w' hSw
                                    (try dsimp only at hSw)
                                    go_simp
                                    try with_reducible rfl
                                  try simp only [Act.put, List.getElem_toArray, List.getElem_cons_zero, List.getElem_cons_succ, List.setIfInBounds_toArray, List.set_cons_zero, List.set_cons_succ]
                                  refine wpAnyH_take (i := 3) (v := ?_) rfl (by kernel_rfl) (by kernel_rfl) (by kernel_rfl) (fun _ _ _ h => h) (Or.inl ⟨by rfl, ?_⟩) (by assumption) ?_
                                  rotate_left
                                  · intro w' hSw
                                    (try dsimp only at hSw)
                                    go_simp
                                    try with_reducible rfl
                                  try simp only [Act.put, List.getElem_toArray, List.getElem_cons_zero, List.getElem_cons_succ, List.setIfInBounds_toArray, List.set_cons_zero, List.set_cons_succ]
                                  refine wpAnyH_take (i := 4) (v := undef) rfl (by kernel_rfl) (by kernel_rfl) (by kernel_rfl) (fun _ _ _ h => h) (Or.inr ⟨by rfl, rfl⟩) (by assumption) ?_
                                  try simp only [Act.put, List.getElem_toArray, List.getElem_cons_zero, List.getElem_cons_succ, List.setIfInBounds_toArray, List.set_cons_zero, List.set_cons_succ]
                                  refine wpAnyH_take (i := 5) (v := undef) rfl (by kernel_rfl) (by kernel_rfl) (by kernel_rfl) (fun _ _ _ h => h) (Or.inr ⟨by rfl, rfl⟩) (by assumption) ?_
                                  try simp only [Act.put, List.getElem_toArray, List.getElem_cons_zero, List.getElem_cons_succ, List.setIfInBounds_toArray, List.set_cons_zero, List.set_cons_succ]
                                  refine wpAnyH_take (i := 6) (v := undef) rfl (by kernel_rfl) (by kernel_rfl) (by kernel_rfl) (fun _ _ _ h => h) (Or.inr ⟨by rfl, rfl⟩) (by assumption) ?_
                                  try simp only [Act.put, List.getElem_toArray, List.getElem_cons_zero, List.getElem_cons_succ, List.setIfInBounds_toArray, List.set_cons_zero, List.set_cons_succ]
                                  refine wpAnyH_take (i := 7) (v := ?_) rfl (by kernel_rfl) (by kernel_rfl) (by kernel_rfl) (fun _ _ _ h => h) (Or.inl ⟨by rfl, ?_⟩) (by assumption) ?_
                                  rotate_left
                                  · intro w' hSw
                                    (try dsimp only at hSw)
                                    go_simp
                                    try with_reducible rfl
                                  try simp only [Act.put, List.getElem_toArray, List.getElem_cons_zero, List.getElem_cons_succ, List.setIfInBounds_toArray, List.set_cons_zero, List.set_cons_succ]
                                  refine wpAnyH_take (i := 8) (v := ?_) rfl (by kernel_rfl) (by kernel_rfl) (by kernel_rfl) (fun _ _ _ h => h) (Or.inl ⟨by rfl, ?_⟩) (by assumption) ?_
                                  rotate_left
                                  · intro w' hSw
                                    (try dsimp only at hSw)
                                    go_simp
                                    try with_reducible rfl
                                  try simp only [Act.put, List.getElem_toArray, List.getElem_cons_zero, List.getElem_cons_succ, List.setIfInBounds_toArray, List.set_cons_zero, List.set_cons_succ]
                                  refine wpAnyH_take (i := 9) (v := ?_) rfl (by kernel_rfl) (by kernel_rfl) (by kernel_rfl) (fun _ _ _ h => h) (Or.inl ⟨by rfl, ?_⟩) (by assumption) ?_
                                  rotate_left
                                  · intro w' hSw
                                    (try dsimp only at hSw)
                                    go_simp
                                    try with_reducible rfl
                                  try simp only [Act.put, List.getElem_toArray, List.getElem_cons_zero, List.getElem_cons_succ, List.setIfInBounds_toArray, List.set_cons_zero, List.set_cons_succ]
                                  refine wpAnyH_take (i := 10) (v := ?_) rfl (by kernel_rfl) (by kernel_rfl) (by kernel_rfl) (fun _ _ _ h => h) (Or.inl ⟨by rfl, ?_⟩) (by assumption) ?_
                                  rotate_left
                                  · intro w' hSw
                                    (try dsimp only at hSw)
                                    go_simp
                                    try with_reducible rfl
                                  try simp only [Act.put, List.getElem_toArray, List.getElem_cons_zero, List.getElem_cons_succ, List.setIfInBounds_toArray, List.set_cons_zero, List.set_cons_succ]
                                  refine wpAnyH_take (i := 11) (v := ?_) rfl (by kernel_rfl) (by kernel_rfl) (by kernel_rfl) (fun _ _ _ h => h) (Or.inl ⟨by rfl, ?_⟩) (by assumption) ?_
                                  rotate_left
                                  · intro w' hSw
                                    (try dsimp only at hSw)
                                    go_simp
                                    try with_reducible rfl
                                  try simp only [Act.put, List.getElem_toArray, List.getElem_cons_zero, List.getElem_cons_succ, List.setIfInBounds_toArray, List.set_cons_zero, List.set_cons_succ]
                                  refine wpAnyH_take (i := 12) (v := ?_) rfl (by kernel_rfl) (by kernel_rfl) (by kernel_rfl) (fun _ _ _ h => h) (Or.inl ⟨by rfl, ?_⟩) (by assumption) ?_
                                  rotate_left
                                  · intro w' hSw
                                    (try dsimp only at hSw)
                                    go_simp
                                    try with_reducible rfl
                                  try simp only [Act.put, List.getElem_toArray, List.getElem_cons_zero, List.getElem_cons_succ, List.setIfInBounds_toArray, List.set_cons_zero, List.set_cons_succ]
                                  refine wpAnyH_take (i := 13) (v := ?_) rfl (by kernel_rfl) (by kernel_rfl) (by kernel_rfl) (fun _ _ _ h => h) (Or.inl ⟨by rfl, ?_⟩) (by assumption) ?_
                                  rotate_left
                                  · intro w' hSw
                                    (try dsimp only at hSw)
                                    go_simp
                                    try with_reducible rfl
                                  try simp only [Act.put, List.getElem_toArray, List.getElem_cons_zero, List.getElem_cons_succ, List.setIfInBounds_toArray, List.set_cons_zero, List.set_cons_succ]
                                  refine wpAnyH_take (i := 14) (v := ?_) rfl (by kernel_rfl) (by kernel_rfl) (by kernel_rfl) (fun _ _ _ h => h) (Or.inl ⟨by rfl, ?_⟩) (by assumption) ?_
                                  rotate_left
                                  · intro w' hSw
                                    (try dsimp only at hSw)
                                    go_simp
                                    try with_reducible rfl
                                  try simp only [Act.put, List.getElem_toArray, List.getElem_cons_zero, List.getElem_cons_succ, List.setIfInBounds_toArray, List.set_cons_zero, List.set_cons_succ]
                                  refine wpAnyH_ready (rs := [15]) (by kernel_rfl) (by simp) ?_
                                  refine (AllReadyH.cons rfl (fun K hK => ?_) AllReadyH.nil)
                                  have HKK := Lib.hid hK
                                  clear hK
                                  go_simp
                                  refine (inLoop_any l x.a _).mono ?_
                                  rintro e w8 ⟨rfl, hb8⟩
                                  try dsimp only
                                  rw [za]
                                  have N1 := Lib.hid (N0.out.below hb8)
                                  have HB1 : Hid (Below wr.drew.heap.size wr.drew w8) := hb8
                                  have s1 := HLW.out _ hb8
                                  clear hb8
                                  refine HKK.out _ _ s1 (fun hHeld => ?_)
                                  clear HKK K
                                  try simp only [Act.put, List.getElem_toArray, List.getElem_cons_zero, List.getElem_cons_succ, List.setIfInBounds_toArray, List.set_cons_zero, List.set_cons_succ]
                                  refine wpAnyH_take (i := 16) (v := ?_) rfl (by kernel_rfl) (by kernel_rfl) (by kernel_rfl) (fun _ _ _ h => h) (Or.inl ⟨by rfl, ?_⟩) (by assumption) ?_
                                  rotate_left
                                  · intro w' hSw
                                    (try dsimp only at hSw)
                                    go_simp
                                    try with_reducible rfl
                                  try simp only [Act.put, List.getElem_toArray, List.getElem_cons_zero, List.getElem_cons_succ, List.setIfInBounds_toArray, List.set_cons_zero, List.set_cons_succ]
                                  refine wpAnyH_take (i := 17) (v := ?_) rfl (by kernel_rfl) (by kernel_rfl) (by kernel_rfl) (fun _ _ _ h => h) (Or.inl ⟨by rfl, ?_⟩) (by assumption) ?_
                                  rotate_left
                                  · intro w' hSw
                                    (try dsimp only at hSw)
                                    go_simp
                                    try with_reducible rfl
                                  try simp only [Act.put, List.getElem_toArray, List.getElem_cons_zero, List.getElem_cons_succ, List.setIfInBounds_toArray, List.set_cons_zero, List.set_cons_succ]
                                  refine wpAnyH_take (i := 18) (v := ?_) rfl (by kernel_rfl) (by kernel_rfl) (by kernel_rfl) (fun _ _ _ h => h) (Or.inl ⟨by rfl, ?_⟩) (by assumption) ?_
                                  rotate_left
                                  · intro w' hSw
                                    (try dsimp only at hSw)
                                    go_simp
                                    try with_reducible rfl
                                  try simp only [Act.put, List.getElem_toArray, List.getElem_cons_zero, List.getElem_cons_succ, List.setIfInBounds_toArray, List.set_cons_zero, List.set_cons_succ]
                                  refine wpAnyH_take (i := 19) (v := ?_) rfl (by kernel_rfl) (by kernel_rfl) (by kernel_rfl) (fun _ _ _ h => h) (Or.inl ⟨by rfl, ?_⟩) (by assumption) ?_
                                  rotate_left
                                  · intro w' hSw
                                    (try dsimp only at hSw)
                                    go_simp
                                    try with_reducible rfl
                                  try simp only [Act.put, List.getElem_toArray, List.getElem_cons_zero, List.getElem_cons_succ, List.setIfInBounds_toArray, List.set_cons_zero, List.set_cons_succ]
                                  refine wpAnyH_take (i := 20) (v := ?_) rfl (by kernel_rfl) (by kernel_rfl) (by kernel_rfl) (fun _ _ _ h => h) (Or.inl ⟨by rfl, ?_⟩) (by assumption) ?_
                                  rotate_left
                                  · intro w' hSw
                                    (try dsimp only at hSw)
                                    go_simp
                                    try with_reducible rfl
                                  try simp only [Act.put, List.getElem_toArray, List.getElem_cons_zero, List.getElem_cons_succ, List.setIfInBounds_toArray, List.set_cons_zero, List.set_cons_succ]
                                  refine wpAnyH_take (i := 21) (v := ?_) rfl (by kernel_rfl) (by kernel_rfl) (by kernel_rfl) (fun _ _ _ h => h) (Or.inl ⟨by rfl, ?_⟩) (by assumption) ?_
                                  rotate_left
                                  · intro w' hSw
                                    (try dsimp only at hSw)
                                    go_simp
                                    try with_reducible rfl
                                  try simp only [Act.put, List.getElem_toArray, List.getElem_cons_zero, List.getElem_cons_succ, List.setIfInBounds_toArray, List.set_cons_zero, List.set_cons_succ]
                                  refine wpAnyH_take (i := 22) (v := ?_) rfl (by kernel_rfl) (by kernel_rfl) (by kernel_rfl) (fun _ _ _ h => h) (Or.inl ⟨by rfl, ?_⟩) (by assumption) ?_
                                  rotate_left
                                  · intro w' hSw
                                    (try dsimp only at hSw)
                                    go_simp
                                    try with_reducible rfl
                                  try simp only [Act.put, List.getElem_toArray, List.getElem_cons_zero, List.getElem_cons_succ, List.setIfInBounds_toArray, List.set_cons_zero, List.set_cons_succ]
                                  refine wpAnyH_ready (rs := [23]) (by kernel_rfl) (by simp) ?_
                                  refine (AllReadyH.cons rfl (fun K hK => ?_) AllReadyH.nil)
                                  have HKK := Lib.hid hK
                                  clear hK
                                  go_simp
                                  refine (inLoop_any l (m : Int) _).mono ?_
                                  rintro e w9 ⟨rfl, hb9⟩
                                  try dsimp only
                                  rw [zb]
                                  have N2 := Lib.hid (N1.out.below hb9)
                                  have s2 := HLW.out _ (HB1.out.trans (hb9.mono HB1.out.size))
                                  clear hb9
                                  refine HKK.out _ _ s2 (fun hHeld => ?_)
                                  clear HKK K
                                  try simp only [Act.put, List.getElem_toArray, List.getElem_cons_zero, List.getElem_cons_succ, List.setIfInBounds_toArray, List.set_cons_zero, List.set_cons_succ]
                                  refine wpAnyH_take (i := 24) (v := ?_) rfl (by kernel_rfl) (by kernel_rfl) (by kernel_rfl) (fun _ _ _ h => h) (Or.inl ⟨by rfl, ?_⟩) (by assumption) ?_
                                  rotate_left
                                  · intro w' hSw
                                    (try dsimp only at hSw)
                                    go_simp
                                    try with_reducible rfl
                                  try simp only [Act.put, List.getElem_toArray, List.getElem_cons_zero, List.getElem_cons_succ, List.setIfInBounds_toArray, List.set_cons_zero, List.set_cons_succ]
                                  refine wpAnyH_take (i := 25) (v := ?_) rfl (by kernel_rfl) (by kernel_rfl) (by kernel_rfl) (fun _ _ _ h => h) (Or.inl ⟨by rfl, ?_⟩) (by assumption) ?_
                                  rotate_left
                                  · intro w' hSw
                                    (try dsimp only at hSw)
                                    go_simp
                                    try with_reducible rfl
                                  try simp only [Act.put, List.getElem_toArray, List.getElem_cons_zero, List.getElem_cons_succ, List.setIfInBounds_toArray, List.set_cons_zero, List.set_cons_succ]
                                  refine wpAnyH_done (by kernel_rfl) ?_ _
                                  have MN : Hid (∃ Ks, Mem w w9 (⟨g11, 50, #[.int .i64 x.op, .int .i64 x.a, .int .i64 x.b, .int .i64 x.c]⟩ :: ⟨g6, 43, #[.int .i64 vk, .string vname, .slice fA fn fc, .slice sA sn sc, .slice (some ⟨b3, o3, none⟩) i tc]⟩ :: ⟨gb + 1, 28, #[.int .i64 0, .int .i64 0, .int .i64 0]⟩ :: ⟨gb, 24, #[.slice (some ⟨b, o, none⟩) N c]⟩ :: Ks) [⟨53, 4, some ⟨b5, o5, none⟩, q, c5, loopsV L⟩, ⟨3, 1, B, k, cB, ints (natL bs)⟩]) := Lib.hid ⟨_, N2.out⟩
                                  have HN : Hid ((false = true ∧ JAt L x m (j + 1)) ∨ (false = false ∧ ¬ JAt L x m q)) := Lib.hid (.inr ⟨rfl, fun h => h HJP.out j l hjq HL.out ⟨HA1.out, HB2.out⟩⟩)
                                  clear hHeld sE s1 s2
                                  go_wp2
                                  go_roundw
                                  case rel => exact ⟨j + 1, false, by omega, by go_num, rfl, HN, MN⟩
                                  case measure => simp [intOf]; omega
                              · have za : decide (inL l x.a) = false := decide_eq_false ha
                                have HA1 := Lib.hid ha
                                clear ha
                                go_upto_region 23 with fail
                                refine wp_region_held_drew (S := fun w' => w'.cell? ⟨g11, 0, none⟩ = some (.int .i64 x.op) ∧ w'.cell? ⟨g11, 1, none⟩ = some (.int .i64 x.a) ∧ w'.cell? ⟨b5, o5 + j * 4, none⟩ = some (.int .i64 l.fr) ∧ w'.cell? ⟨b5, o5 + j * 4 + 1, none⟩ = some (.int .i64 l.to) ∧ w'.cell? ⟨b5, o5 + j * 4 + 2, none⟩ = some (.int .i64 l.counter) ∧ w'.cell? ⟨b5, o5 + j * 4 + 3, none⟩ = some (.int .i64 l.times)) (by kernel_rfl) ?_ (fun hHeld => ?_)
                                · exact sE
                                refine wpAnyH_take (i := 0) (v := ?_) rfl (by kernel_rfl) (by kernel_rfl) (by kernel_rfl) (fun _ _ _ h => h) (Or.inl ⟨by rfl, ?_⟩) (by assumption) ?_
                                rotate_left
                                · intro w' hSw
                                  (try dsimp only at hSw)
                                  go_simp
                                  try with_reducible rfl
                                try simp only [Act.put, List.getElem_toArray, List.getElem_cons_zero, List.setIfInBounds_toArray, List.set_cons_zero, List.set_cons_succ]
                                refine wpAnyH_take (i := 1) (v := ?_) rfl (by kernel_rfl) (by kernel_rfl) (by kernel_rfl) (fun _ _ _ h => h) (Or.inl ⟨by rfl, ?_⟩) (by assumption) ?_
                                rotate_left
                                · intro w' hSw
                                  (try dsimp only at hSw)
                                  go_simp
                                  try with_reducible rfl
                                try simp only [Act.put, List.getElem_toArray, List.getElem_cons_zero, List.getElem_cons_succ, List.setIfInBounds_toArray, List.set_cons_zero, List.set_cons_succ]
                                refine wpAnyH_take (i := 2) (v := ?_) rfl (by kernel_rfl) (by kernel_rfl) (by kernel_rfl) (fun _ _ _ h => h) (Or.inl ⟨by rfl, ?_⟩) (by assumption) ?_
                                rotate_left
                                · intro w' hSw
                                  (try dsimp only at hSw)
                                  go_simp
                                  try with_reducible rfl
                                try simp only [Act.put, List.getElem_toArray, List.getElem_cons_zero, List.getElem_cons_succ, List.setIfInBounds_toArray, List.set_cons_zero, List.set_cons_succ]
                                refine wpAnyH_take (i := 3) (v := ?_) rfl (by kernel_rfl) (by kernel_rfl) (by kernel_rfl) (fun _ _ _ h => h) (Or.inl ⟨by rfl, ?_⟩) (by assumption) ?_
                                rotate_left
                                · intro w' hSw
                                  (try dsimp only at hSw)
                                  go_simp
                                  try with_reducible rfl
                                try simp only [Act.put, List.getElem_toArray, List.getElem_cons_zero, List.getElem_cons_succ, List.setIfInBounds_toArray, List.set_cons_zero, List.set_cons_succ]
                                refine wpAnyH_take (i := 4) (v := undef) rfl (by kernel_rfl) (by kernel_rfl) (by kernel_rfl) (fun _ _ _ h => h) (Or.inr ⟨by rfl, rfl⟩) (by assumption) ?_
                                try simp only [Act.put, List.getElem_toArray, List.getElem_cons_zero, List.getElem_cons_succ, List.setIfInBounds_toArray, List.set_cons_zero, List.set_cons_succ]
                                refine wpAnyH_take (i := 5) (v := undef) rfl (by kernel_rfl) (by kernel_rfl) (by kernel_rfl) (fun _ _ _ h => h) (Or.inr ⟨by rfl, rfl⟩) (by assumption) ?_
                                try simp only [Act.put, List.getElem_toArray, List.getElem_cons_zero, List.getElem_cons_succ, List.setIfInBounds_toArray, List.set_cons_zero, List.set_cons_succ]
                                refine wpAnyH_take (i := 6) (v := undef) rfl (by kernel_rfl) (by kernel_rfl) (by kernel_rfl) (fun _ _ _ h => h) (Or.inr ⟨by rfl, rfl⟩) (by assumption) ?_
                                try simp only [Act.put, List.getElem_toArray, List.getElem_cons_zero, List.getElem_cons_succ, List.setIfInBounds_toArray, List.set_cons_zero, List.set_cons_succ]
                                refine wpAnyH_take (i := 7) (v := ?_) rfl (by kernel_rfl) (by kernel_rfl) (by kernel_rfl) (fun _ _ _ h => h) (Or.inl ⟨by rfl, ?_⟩) (by assumption) ?_
                                rotate_left
                                · intro w' hSw
                                  (try dsimp only at hSw)
                                  go_simp
                                  try with_reducible rfl
                                try simp only [Act.put, List.getElem_toArray, List.getElem_cons_zero, List.getElem_cons_succ, List.setIfInBounds_toArray, List.set_cons_zero, List.set_cons_succ]
                                refine wpAnyH_take (i := 8) (v := ?_) rfl (by kernel_rfl) (by kernel_rfl) (by kernel_rfl) (fun _ _ _ h => h) (Or.inl ⟨by rfl, ?_⟩) (by assumption) ?_
                                rotate_left
                                · intro w' hSw
                                  (try dsimp only at hSw)
                                  go_simp
                                  try with_reducible rfl
                                try simp only [Act.put, List.getElem_toArray, List.getElem_cons_zero, List.getElem_cons_succ, List.setIfInBounds_toArray, List.set_cons_zero, List.set_cons_succ]
                                refine wpAnyH_take (i := 9) (v := ?_) rfl (by kernel_rfl) (by kernel_rfl) (by kernel_rfl) (fun _ _ _ h => h) (Or.inl ⟨by rfl, ?_⟩) (by assumption) ?_
                                rotate_left
                                · intro w' hSw
                                  (try dsimp only at hSw)
                                  go_simp
                                  try with_reducible rfl
                                try simp only [Act.put, List.getElem_toArray, List.getElem_cons_zero, List.getElem_cons_succ, List.setIfInBounds_toArray, List.set_cons_zero, List.set_cons_succ]
                                refine wpAnyH_take (i := 10) (v := ?_) rfl (by kernel_rfl) (by kernel_rfl) (by kernel_rfl) (fun _ _ _ h => h) (Or.inl ⟨by rfl, ?_⟩) (by assumption) ?_
                                rotate_left
                                · intro w' hSw
                                  (try dsimp only at hSw)
                                  go_simp
                                  try with_reducible rfl
                                try simp only [Act.put, List.getElem_toArray, List.getElem_cons_zero, List.getElem_cons_succ, List.setIfInBounds_toArray, List.set_cons_zero, List.set_cons_succ]
                                refine wpAnyH_take (i := 11) (v := ?_) rfl (by kernel_rfl) (by kernel_rfl) (by kernel_rfl) (fun _ _ _ h => h) (Or.inl ⟨by rfl, ?_⟩) (by assumption) ?_
                                rotate_left
                                · intro w' hSw
                                  (try dsimp only at hSw)
                                  go_simp
                                  try with_reducible rfl
                                try simp only [Act.put, List.getElem_toArray, List.getElem_cons_zero, List.getElem_cons_succ, List.setIfInBounds_toArray, List.set_cons_zero, List.set_cons_succ]
                                refine wpAnyH_take (i := 12) (v := ?_) rfl (by kernel_rfl) (by kernel_rfl) (by kernel_rfl) (fun _ _ _ h => h) (Or.inl ⟨by rfl, ?_⟩) (by assumption) ?_
                                rotate_left
                                · intro w' hSw
                                  (try dsimp only at hSw)
                                  go_simp
                                  try with_reducible rfl
                                try simp only [Act.put, List.getElem_toArray, List.getElem_cons_zero, List.getElem_cons_succ, List.setIfInBounds_toArray, List.set_cons_zero, List.set_cons_succ]
                                refine wpAnyH_take (i := 13) (v := ?_) rfl (by kernel_rfl) (by kernel_rfl) (by kernel_rfl) (fun _ _ _ h => h) (Or.inl ⟨by rfl, ?_⟩) (by assumption) ?_
                                rotate_left
                                · intro w' hSw
                                  (try dsimp only at hSw)
                                  go_simp
                                  try with_reducible rfl
                                try simp only [Act.put, List.getElem_toArray, List.getElem_cons_zero, List.getElem_cons_succ, List.setIfInBounds_toArray, List.set_cons_zero, List.set_cons_succ]
                                refine wpAnyH_take (i := 14) (v := ?_) rfl (by kernel_rfl) (by kernel_rfl) (by kernel_rfl) (fun _ _ _ h => h) (Or.inl ⟨by rfl, ?_⟩) (by assumption) ?_
                                rotate_left
                                · intro w' hSw
                                  (try dsimp only at hSw)
                                  go_simp
                                  try with_reducible rfl
                                try simp only [Act.put, List.getElem_toArray, List.getElem_cons_zero, List.getElem_cons_succ, List.setIfInBounds_toArray, List.set_cons_zero, List.set_cons_succ]
                                refine wpAnyH_ready (rs := [15]) (by kernel_rfl) (by simp) ?_
                                refine (AllReadyH.cons rfl (fun K hK => ?_) AllReadyH.nil)
                                have HKK := Lib.hid hK
                                clear hK
                                go_simp
                                refine (inLoop_any l x.a _).mono ?_
                                rintro e w8 ⟨rfl, hb8⟩
                                try dsimp only
                                rw [za]
                                have N1 := Lib.hid (N0.out.below hb8)
                                have HB1 : Hid (Below wr.drew.heap.size wr.drew w8) := hb8
                                have s1 := HLW.out _ hb8
                                clear hb8
                                refine HKK.out _ _ s1 (fun hHeld => ?_)
                                clear HKK K
                                try simp only [Act.put, List.getElem_toArray, List.getElem_cons_zero, List.getElem_cons_succ, List.setIfInBounds_toArray, List.set_cons_zero, List.set_cons_succ]
                                refine wpAnyH_take (i := 16) (v := ?_) rfl (by kernel_rfl) (by kernel_rfl) (by kernel_rfl) (fun _ _ _ h => h) (Or.inl ⟨by rfl, ?_⟩) (by assumption) ?_
                                rotate_left
                                · intro w' hSw
                                  (try dsimp only at hSw)
                                  go_simp
                                  try with_reducible rfl
                                try simp only [Act.put, List.getElem_toArray, List.getElem_cons_zero, List.getElem_cons_succ, List.setIfInBounds_toArray, List.set_cons_zero, List.set_cons_succ]
                                refine wpAnyH_take (i := 17) (v := ?_) rfl (by kernel_rfl) (by kernel_rfl) (by kernel_rfl) (fun _ _ _ h => h) (Or.inl ⟨by rfl, ?_⟩) (by assumption) ?_
                                rotate_left
                                · intro w' hSw
                                  (try dsimp only at hSw)
                                  go_simp
                                  try with_reducible rfl
                                try simp only [Act.put, List.getElem_toArray, List.getElem_cons_zero, List.getElem_cons_succ, List.setIfInBounds_toArray, List.set_cons_zero, List.set_cons_succ]
                                refine wpAnyH_take (i := 18) (v := undef) rfl (by kernel_rfl) (by kernel_rfl) (by kernel_rfl) (fun _ _ _ h => h) (Or.inr ⟨by rfl, rfl⟩) (by assumption) ?_
                                try simp only [Act.put, List.getElem_toArray, List.getElem_cons_zero, List.getElem_cons_succ, List.setIfInBounds_toArray, List.set_cons_zero, List.set_cons_succ]
                                refine wpAnyH_take (i := 19) (v := undef) rfl (by kernel_rfl) (by kernel_rfl) (by kernel_rfl) (fun _ _ _ h => h) (Or.inr ⟨by rfl, rfl⟩) (by assumption) ?_
                                try simp only [Act.put, List.getElem_toArray, List.getElem_cons_zero, List.getElem_cons_succ, List.setIfInBounds_toArray, List.set_cons_zero, List.set_cons_succ]
                                refine wpAnyH_take (i := 20) (v := undef) rfl (by kernel_rfl) (by kernel_rfl) (by kernel_rfl) (fun _ _ _ h => h) (Or.inr ⟨by rfl, rfl⟩) (by assumption) ?_
                                try simp only [Act.put, List.getElem_toArray, List.getElem_cons_zero, List.getElem_cons_succ, List.setIfInBounds_toArray, List.set_cons_zero, List.set_cons_succ]
                                refine wpAnyH_take (i := 21) (v := undef) rfl (by kernel_rfl) (by kernel_rfl) (by kernel_rfl) (fun _ _ _ h => h) (Or.inr ⟨by rfl, rfl⟩) (by assumption) ?_
                                try simp only [Act.put, List.getElem_toArray, List.getElem_cons_zero, List.getElem_cons_succ, List.setIfInBounds_toArray, List.set_cons_zero, List.set_cons_succ]
                                refine wpAnyH_take (i := 22) (v := undef) rfl (by kernel_rfl) (by kernel_rfl) (by kernel_rfl) (fun _ _ _ h => h) (Or.inr ⟨by rfl, rfl⟩) (by assumption) ?_
                                try simp only [Act.put, List.getElem_toArray, List.getElem_cons_zero, List.getElem_cons_succ, List.setIfInBounds_toArray, List.set_cons_zero, List.set_cons_succ]
                                refine wpAnyH_take (i := 23) (v := undef) rfl (by kernel_rfl) (by kernel_rfl) (by kernel_rfl) (fun _ _ _ h => h) (Or.inr ⟨by rfl, rfl⟩) (by assumption) ?_
                                try simp only [Act.put, List.getElem_toArray, List.getElem_cons_zero, List.getElem_cons_succ, List.setIfInBounds_toArray, List.set_cons_zero, List.set_cons_succ]
                                refine wpAnyH_take (i := 24) (v := undef) rfl (by kernel_rfl) (by kernel_rfl) (by kernel_rfl) (fun _ _ _ h => h) (Or.inr ⟨by rfl, rfl⟩) (by assumption) ?_
                                try simp only [Act.put, List.getElem_toArray, List.getElem_cons_zero, List.getElem_cons_succ, List.setIfInBounds_toArray, List.set_cons_zero, List.set_cons_succ]
                                refine wpAnyH_take (i := 25) (v := ?_) rfl (by kernel_rfl) (by kernel_rfl) (by kernel_rfl) (fun _ _ _ h => h) (Or.inl ⟨by rfl, ?_⟩) (by assumption) ?_
                                rotate_left
                                · intro w' hSw
                                  (try dsimp only at hSw)
                                  go_simp
                                  try with_reducible rfl
                                try simp only [Act.put, List.getElem_toArray, List.getElem_cons_zero, List.getElem_cons_succ, List.setIfInBounds_toArray, List.set_cons_zero, List.set_cons_succ]
                                refine wpAnyH_done (by kernel_rfl) ?_ _
                                have MN : Hid (∃ Ks, Mem w w8 (⟨g11, 50, #[.int .i64 x.op, .int .i64 x.a, .int .i64 x.b, .int .i64 x.c]⟩ :: ⟨g6, 43, #[.int .i64 vk, .string vname, .slice fA fn fc, .slice sA sn sc, .slice (some ⟨b3, o3, none⟩) i tc]⟩ :: ⟨gb + 1, 28, #[.int .i64 0, .int .i64 0, .int .i64 0]⟩ :: ⟨gb, 24, #[.slice (some ⟨b, o, none⟩) N c]⟩ :: Ks) [⟨53, 4, some ⟨b5, o5, none⟩, q, c5, loopsV L⟩, ⟨3, 1, B, k, cB, ints (natL bs)⟩]) := Lib.hid ⟨_, N1.out⟩
                                have HN : Hid ((ok = true ∧ JAt L x m (j + 1)) ∨ (ok = false ∧ ¬ JAt L x m q)) := Lib.hid (HA.out.imp (fun h => ⟨h.1, jat_snoc h.2 HL.out (fun _ h => HA1.out h.1)⟩) (fun h => h))
                                clear hHeld sE s1
                                go_wp2
                                go_roundw
                                case rel => exact ⟨j + 1, ok, by omega, by go_num, rfl, HN, MN⟩
                                case measure => simp [intOf]; omega
                            · have z11 : (x.op == 11) = false := by simp [h11]
                              by_cases h12 : x.op = 12
                              · have z12 : (x.op == 12) = true := by simp [h12]
                                have HJP : Hid (x.op = 11 ∨ x.op = 12) := Lib.hid (.inr h12)
                                clear h11 h12
                                by_cases ha : inL l x.a
                                · have za : decide (inL l x.a) = true := decide_eq_true ha
                                  have HA1 := Lib.hid ha
                                  clear ha
                                  go_upto_region 23 with fail
                                  by_cases hb : inL l (m : Int)
                                  · have zb : decide (inL l (m : Int)) = true := decide_eq_true hb
                                    have HB2 := Lib.hid hb
                                    clear hb
                                    refine wp_region_held_drew (S := fun w' => w'.cell? ⟨g11, 0, none⟩ = some (.int .i64 x.op) ∧ w'.cell? ⟨g11, 1, none⟩ = some (.int .i64 x.a) ∧ w'.cell? ⟨b5, o5 + j * 4, none⟩ = some (.int .i64 l.fr) ∧ w'.cell? ⟨b5, o5 + j * 4 + 1, none⟩ = some (.int .i64 l.to) ∧ w'.cell? ⟨b5, o5 + j * 4 + 2, none⟩ = some (.int .i64 l.counter) ∧ w'.cell? ⟨b5, o5 + j * 4 + 3, none⟩ = some (.int .i64 l.times)) (by kernel_rfl) ?_ (fun hHeld => ?_)
                                    · exact sE
                                    refine wpAnyH_take (i := 0) (v := ?_) rfl (by kernel_rfl) (by kernel_rfl) (by kernel_rfl) (fun _ _ _ h => h) (Or.inl ⟨by rfl, ?_⟩) (by assumption) ?_
                                    rotate_left
                                    · intro w' hSw
                                      (try dsimp only at hSw)
                                      go_simp
                                      try with_reducible rfl
                                    try simp only [Act.put, List.getElem_toArray, List.getElem_cons_zero, List.setIfInBounds_toArray, List.set_cons_zero, List.set_cons_succ]
                                    refine wpAnyH_take (i := 1) (v := ?_) rfl (by kernel_rfl) (by kernel_rfl) (by kernel_rfl) (fun _ _ _ h => h) (Or.inl ⟨by rfl, ?_⟩) (by assumption) ?_
                                    rotate_left
                                    · intro w' hSw
                                      (try dsimp only at hSw)
                                      go_simp
                                      try with_reducible rfl
                                    try simp only [Act.put, List.getElem_toArray, List.getElem_cons_zero, List.getElem_cons_succ, List.setIfInBounds_toArray, List.set_cons_zero, List.set_cons_succ]
                                    refine wpAnyH_take (i := 2) (v := ?_) rfl (by kernel_rfl) (by kernel_rfl) (by kernel_rfl) (fun _ _ _ h => h) (Or.inl ⟨by rfl, ?_⟩) (by assumption) ?_
                                    rotate_left
                                    · intro w' hSw
                                      (try dsimp only at hSw)
                                      go_simp
                                      try with_reducible rfl
                                    try simp only [Act.put, List.getElem_toArray, List.getElem_cons_zero, List.getElem_cons_succ, List.setIfInBounds_toArray, List.set_cons_zero, List.set_cons_succ]
                                    refine wpAnyH_take (i := 3) (v := ?_) rfl (by kernel_rfl) (by kernel_rfl) (by kernel_rfl) (fun _ _ _ h => h) (Or.inl ⟨by rfl, ?_⟩) (by assumption) ?_
                                    rotate_left
                                    · intro w' hSw
                                      (try dsimp only at hSw)
                                      go_simp
                                      try with_reducible rfl
                                    try simp only [Act.put, List.getElem_toArray, List.getElem_cons_zero, List.getElem_cons_succ, List.setIfInBounds_toArray, List.set_cons_zero, List.set_cons_succ]
                                    refine wpAnyH_take (i := 4) (v := ?_) rfl (by kernel_rfl) (by kernel_rfl) (by kernel_rfl) (fun _ _ _ h => h) (Or.inl ⟨by rfl, ?_⟩) (by assumption) ?_
                                    rotate_left
                                    · intro w' hSw
                                      (try dsimp only at hSw)
                                      go_simp
                                      try with_reducible rfl
                                    try simp only [Act.put, List.getElem_toArray, List.getElem_cons_zero, List.getElem_cons_succ, List.setIfInBounds_toArray, List.set_cons_zero, List.set_cons_succ]
                                    refine wpAnyH_take (i := 5) (v := ?_) rfl (by kernel_rfl) (by kernel_rfl) (by kernel_rfl) (fun _ _ _ h => h) (Or.inl ⟨by rfl, ?_⟩) (by assumption) ?_
                                    rotate_left
                                    · intro w' hSw
                                      (try dsimp only at hSw)
                                      go_simp
                                      try with_reducible rfl
                                    try simp only [Act.put, List.getElem_toArray, List.getElem_cons_zero, List.getElem_cons_succ, List.setIfInBounds_toArray, List.set_cons_zero, List.set_cons_succ]
                                    refine wpAnyH_take (i := 6) (v := ?_) rfl (by kernel_rfl) (by kernel_rfl) (by kernel_rfl) (fun _ _ _ h => h) (Or.inl ⟨by rfl, ?_⟩) (by assumption) ?_
                                    rotate_left
                                    · intro w' hSw
                                      (try dsimp only at hSw)
                                      go_simp
                                      try with_reducible rfl
                                    try simp only [Act.put, List.getElem_toArray, List.getElem_cons_zero, List.getElem_cons_succ, List.setIfInBounds_toArray, List.set_cons_zero, List.set_cons_succ]
                                    refine wpAnyH_take (i := 7) (v := ?_) rfl (by kernel_rfl) (by kernel_rfl) (by kernel_rfl) (fun _ _ _ h => h) (Or.inl ⟨by rfl, ?_⟩) (by assumption) ?_
                                    rotate_left
                                    · intro w' hSw
                                      (try dsimp only at hSw)
                                      go_simp
                                      try with_reducible rfl
                                    try simp only [Act.put, List.getElem_toArray, List.getElem_cons_zero, List.getElem_cons_succ, List.setIfInBounds_toArray, List.set_cons_zero, List.set_cons_succ]
                                    refine wpAnyH_take (i := 8) (v := ?_) rfl (by kernel_rfl) (by kernel_rfl) (by kernel_rfl) (fun _ _ _ h => h) (Or.inl ⟨by rfl, ?_⟩) (by assumption) ?_
                                    rotate_left
                                    · intro w' hSw
                                      (try dsimp only at hSw)
                                      go_simp
                                      try with_reducible rfl
                                    try simp only [Act.put, List.getElem_toArray, List.getElem_cons_zero, List.getElem_cons_succ, List.setIfInBounds_toArray, List.set_cons_zero, List.set_cons_succ]
                                    refine wpAnyH_take (i := 9) (v := ?_) rfl (by kernel_rfl) (by kernel_rfl) (by kernel_rfl) (fun _ _ _ h => h) (Or.inl ⟨by rfl, ?_⟩) (by assumption) ?_
                                    rotate_left
                                    · intro w' hSw
                                      (try dsimp only at hSw)
                                      go_simp
                                      try with_reducible rfl
                                    try simp only [Act.put, List.getElem_toArray, List.getElem_cons_zero, List.getElem_cons_succ, List.setIfInBounds_toArray, List.set_cons_zero, List.set_cons_succ]
                                    refine wpAnyH_take (i := 10) (v := ?_) rfl (by kernel_rfl) (by kernel_rfl) (by kernel_rfl) (fun _ _ _ h => h) (Or.inl ⟨by rfl, ?_⟩) (by assumption) ?_
                                    rotate_left
                                    · intro w' hSw
                                      (try dsimp only at hSw)
                                      go_simp
                                      try with_reducible rfl
                                    try simp only [Act.put, List.getElem_toArray, List.getElem_cons_zero, List.getElem_cons_succ, List.setIfInBounds_toArray, List.set_cons_zero, List.set_cons_succ]
                                    refine wpAnyH_take (i := 11) (v := ?_) rfl (by kernel_rfl) (by kernel_rfl) (by kernel_rfl) (fun _ _ _ h => h) (Or.inl ⟨by rfl, ?_⟩) (by assumption) ?_
                                    rotate_left
                                    · intro w' hSw
                                      (try dsimp only at hSw)
                                      go_simp
                                      try with_reducible rfl
                                    try simp only [Act.put, List.getElem_toArray, List.getElem_cons_zero, List.getElem_cons_succ, List.setIfInBounds_toArray, List.set_cons_zero, List.set_cons_succ]
                                    refine wpAnyH_take (i := 12) (v := ?_) rfl (by kernel_rfl) (by kernel_rfl) (by kernel_rfl) (fun _ _ _ h => h) (Or.inl ⟨by rfl, ?_⟩) (by assumption) ?_
                                    rotate_left
                                    · intro w' hSw
                                      (try dsimp only at hSw)
                                      go_simp
                                      try with_reducible rfl
                                    try simp only [Act.put, List.getElem_toArray, List.getElem_cons_zero, List.getElem_cons_succ, List.setIfInBounds_toArray, List.set_cons_zero, List.set_cons_succ]
                                    refine wpAnyH_take (i := 13) (v := ?_) rfl (by kernel_rfl) (by kernel_rfl) (by kernel_rfl) (fun _ _ _ h => h) (Or.inl ⟨by rfl, ?_⟩) (by assumption) ?_
                                    rotate_left
                                    · intro w' hSw
                                      (try dsimp only at hSw)
                                      go_simp
                                      try with_reducible rfl
                                    try simp only [Act.put, List.getElem_toArray, List.getElem_cons_zero, List.getElem_cons_succ, List.setIfInBounds_toArray, List.set_cons_zero, List.set_cons_succ]
                                    refine wpAnyH_take (i := 14) (v := ?_) rfl (by kernel_rfl) (by kernel_rfl) (by kernel_rfl) (fun _ _ _ h => h) (Or.inl ⟨by rfl, ?_⟩) (by assumption) ?_
                                    rotate_left
                                    · intro w' hSw
                                      (try dsimp only at hSw)
                                      go_simp
                                      try with_reducible rfl
                                    try simp only [Act.put, List.getElem_toArray, List.getElem_cons_zero, List.getElem_cons_succ, List.setIfInBounds_toArray, List.set_cons_zero, List.set_cons_succ]
                                    refine wpAnyH_ready (rs := [15]) (by kernel_rfl) (by simp) ?_
                                    refine (AllReadyH.cons rfl (fun K hK => ?_) AllReadyH.nil)
                                    have HKK := Lib.hid hK
                                    clear hK
                                    go_simp
                                    refine (inLoop_any l x.a _).mono ?_
                                    rintro e w8 ⟨rfl, hb8⟩
                                    try dsimp only
                                    rw [za]
                                    have N1 := Lib.hid (N0.out.below hb8)
                                    have HB1 : Hid (Below wr.drew.heap.size wr.drew w8) := hb8
                                    have s1 := HLW.out _ hb8
                                    clear hb8
                                    refine HKK.out _ _ s1 (fun hHeld => ?_)
                                    clear HKK K
                                    try simp only [Act.put, List.getElem_toArray, List.getElem_cons_zero, List.getElem_cons_succ, List.setIfInBounds_toArray, List.set_cons_zero, List.set_cons_succ]
                                    refine wpAnyH_take (i := 16) (v := ?_) rfl (by kernel_rfl) (by kernel_rfl) (by kernel_rfl) (fun _ _ _ h => h) (Or.inl ⟨by rfl, ?_⟩) (by assumption) ?_
                                    rotate_left
                                    · intro w' hSw
                                      (try dsimp only at hSw)
                                      go_simp
                                      try with_reducible rfl
                                    try simp only [Act.put, List.getElem_toArray, List.getElem_cons_zero, List.getElem_cons_succ, List.setIfInBounds_toArray, List.set_cons_zero, List.set_cons_succ]
                                    refine wpAnyH_take (i := 17) (v := ?_) rfl (by kernel_rfl) (by kernel_rfl) (by kernel_rfl) (fun _ _ _ h => h) (Or.inl ⟨by rfl, ?_⟩) (by assumption) ?_
                                    rotate_left
                                    · intro w' hSw
                                      (try dsimp only at hSw)
                                      go_simp
                                      try with_reducible rfl
                                    try simp only [Act.put, List.getElem_toArray, List.getElem_cons_zero, List.getElem_cons_succ, List.setIfInBounds_toArray, List.set_cons_zero, List.set_cons_succ]
                                    refine wpAnyH_take (i := 18) (v := ?_) rfl (by kernel_rfl) (by kernel_rfl) (by kernel_rfl) (fun _ _ _ h => h) (Or.inl ⟨by rfl, ?_⟩) (by assumption) ?_
                                    rotate_left
                                    · intro w' hSw
                                      (try dsimp only at hSw)
                                      go_simp
                                      try with_reducible rfl
                                    try simp only [Act.put, List.getElem_toArray, List.getElem_cons_zero, List.getElem_cons_succ, List.setIfInBounds_toArray, List.set_cons_zero, List.set_cons_succ]
                                    refine wpAnyH_take (i := 19) (v := ?_) rfl (by kernel_rfl) (by kernel_rfl) (by kernel_rfl) (fun _ _ _ h => h) (Or.inl ⟨by rfl, ?_⟩) (by assumption) ?_
                                    rotate_left
                                    · intro w' hSw
                                      (try dsimp only at hSw)
                                      go_simp
                                      try with_reducible rfl
                                    try simp only [Act.put, List.getElem_toArray, List.getElem_cons_zero, List.getElem_cons_succ, List.setIfInBounds_toArray, List.set_cons_zero, List.set_cons_succ]
                                    refine wpAnyH_take (i := 20) (v := ?_) rfl (by kernel_rfl) (by kernel_rfl) (by kernel_rfl) (fun _ _ _ h => h) (Or.inl ⟨by rfl, ?_⟩) (by assumption) ?_
                                    rotate_left
                                    · intro w' hSw
                                      (try dsimp only at hSw)
                                      go_simp
                                      try with_reducible rfl
                                    try simp only [Act.put, List.getElem_toArray, List.getElem_cons_zero, List.getElem_cons_succ, List.setIfInBounds_toArray, List.set_cons_zero, List.set_cons_succ]
                                    refine wpAnyH_take (i := 21) (v := ?_) rfl (by kernel_rfl) (by kernel_rfl) (by kernel_rfl) (fun _ _ _ h => h) (Or.inl ⟨by rfl, ?_⟩) (by assumption) ?_
                                    rotate_left
                                    · intro w' hSw
                                      (try dsimp only at hSw)
                                      go_simp
                                      try with_reducible rfl
                                    try simp only [Act.put, List.getElem_toArray, List.getElem_cons_zero, List.getElem_cons_succ, List.setIfInBounds_toArray, List.set_cons_zero, List.set_cons_succ]
                                    refine wpAnyH_take (i := 22) (v := ?_) rfl (by kernel_rfl) (by kernel_rfl) (by kernel_rfl) (fun _ _ _ h => h) (Or.inl ⟨by rfl, ?_⟩) (by assumption) ?_
                                    rotate_left
                                    · intro w' hSw
                                      (try dsimp only at hSw)
                                      go_simp
                                      try with_reducible rfl
                                    try simp only [Act.put, List.getElem_toArray, List.getElem_cons_zero, List.getElem_cons_succ, List.setIfInBounds_toArray, List.set_cons_zero, List.set_cons_succ]
                                    refine wpAnyH_ready (rs := [23]) (by kernel_rfl) (by simp) ?_
                                    refine (AllReadyH.cons rfl (fun K hK => ?_) AllReadyH.nil)
                                    have HKK := Lib.hid hK
                                    clear hK
                                    go_simp
                                    refine (inLoop_any l (m : Int) _).mono ?_
                                    rintro e w9 ⟨rfl, hb9⟩
                                    try dsimp only
                                    rw [zb]
                                    have N2 := Lib.hid (N1.out.below hb9)
                                    have s2 := HLW.out _ (HB1.out.trans (hb9.mono HB1.out.size))
                                    clear hb9
                                    refine HKK.out _ _ s2 (fun hHeld => ?_)
                                    clear HKK K
                                    try simp only [Act.put, List.getElem_toArray, List.getElem_cons_zero, List.getElem_cons_succ, List.setIfInBounds_toArray, List.set_cons_zero, List.set_cons_succ]
                                    refine wpAnyH_take (i := 24) (v := ?_) rfl (by kernel_rfl) (by kernel_rfl) (by kernel_rfl) (fun _ _ _ h => h) (Or.inl ⟨by rfl, ?_⟩) (by assumption) ?_
                                    rotate_left
                                    · intro w' hSw
                                      (try dsimp only at hSw)
                                      go_simp
                                      try with_reducible rfl
                                    try simp only [Act.put, List.getElem_toArray, List.getElem_cons_zero, List.getElem_cons_succ, List.setIfInBounds_toArray, List.set_cons_zero, List.set_cons_succ]
                                    refine wpAnyH_take (i := 25) (v := ?_) rfl (by kernel_rfl) (by kernel_rfl) (by kernel_rfl) (fun _ _ _ h => h) (Or.inl ⟨by rfl, ?_⟩) (by assumption) ?_
                                    rotate_left
                                    · intro w' hSw
                                      (try dsimp only at hSw)
                                      go_simp
                                      try with_reducible rfl
                                    try simp only [Act.put, List.getElem_toArray, List.getElem_cons_zero, List.getElem_cons_succ, List.setIfInBounds_toArray, List.set_cons_zero, List.set_cons_succ]
                                    refine wpAnyH_done (by kernel_rfl) ?_ _
                                    have MN : Hid (∃ Ks, Mem w w9 (⟨g11, 50, #[.int .i64 x.op, .int .i64 x.a, .int .i64 x.b, .int .i64 x.c]⟩ :: ⟨g6, 43, #[.int .i64 vk, .string vname, .slice fA fn fc, .slice sA sn sc, .slice (some ⟨b3, o3, none⟩) i tc]⟩ :: ⟨gb + 1, 28, #[.int .i64 0, .int .i64 0, .int .i64 0]⟩ :: ⟨gb, 24, #[.slice (some ⟨b, o, none⟩) N c]⟩ :: Ks) [⟨53, 4, some ⟨b5, o5, none⟩, q, c5, loopsV L⟩, ⟨3, 1, B, k, cB, ints (natL bs)⟩]) := Lib.hid ⟨_, N2.out⟩
                                    have HN : Hid ((ok = true ∧ JAt L x m (j + 1)) ∨ (ok = false ∧ ¬ JAt L x m q)) := Lib.hid (HA.out.imp (fun h => ⟨h.1, jat_snoc h.2 HL.out (fun _ h => h.2 HB2.out)⟩) (fun h => h))
                                    clear hHeld sE s1 s2
                                    go_wp2
                                    go_roundw
                                    case rel => exact ⟨j + 1, ok, by omega, by go_num, rfl, HN, MN⟩
                                    case measure => simp [intOf]; omega
                                  · have zb : decide (inL l (m : Int)) = false := decide_eq_false hb
                                    have HB2 := Lib.hid hb
                                    clear hb
                                    refine wp_region_held_drew (S := fun w' => w'.cell? ⟨g11, 0, none⟩ = some (.int .i64 x.op) ∧ w'.cell? ⟨g11, 1, none⟩ = some (.int .i64 x.a) ∧ w'.cell? ⟨b5, o5 + j * 4, none⟩ = some (.int .i64 l.fr) ∧ w'.cell? ⟨b5, o5 + j * 4 + 1, none⟩ = some (.int .i64 l.to) ∧ w'.cell? ⟨b5, o5 + j * 4 + 2, none⟩ = some (.int .i64 l.counter) ∧ w'.cell? ⟨b5, o5 + j * 4 + 3, none⟩ = some (.int .i64 l.times)) (by kernel_rfl) ?_ (fun hHeld => ?_)
                                    · exact sE
                                    refine wpAnyH_take (i := 0) (v := ?_) rfl (by kernel_rfl) (by kernel_rfl) (by kernel_rfl) (fun _ _ _ h => h) (Or.inl ⟨by rfl, ?_⟩) (by assumption) ?_
                                    rotate_left
                                    · intro w' hSw
                                      (try dsimp only at hSw)
                                      go_simp
                                      try with_reducible rfl
                                    try simp only [Act.put, List.getElem_toArray, List.getElem_cons_zero, List.setIfInBounds_toArray, List.set_cons_zero, List.set_cons_succ]
                                    refine wpAnyH_take (i := 1) (v := ?_) rfl (by kernel_rfl) (by kernel_rfl) (by kernel_rfl) (fun _ _ _ h => h) (Or.inl ⟨by rfl, ?_⟩) (by assumption) ?_
                                    rotate_left
                                    · intro w' hSw
                                      (try dsimp only at hSw)
                                      go_simp
                                      try with_reducible rfl
                                    try simp only [Act.put, List.getElem_toArray, List.getElem_cons_zero, List.getElem_cons_succ, List.setIfInBounds_toArray, List.set_cons_zero, List.set_cons_succ]
                                    refine wpAnyH_take (i := 2) (v := ?_) rfl (by kernel_rfl) (by kernel_rfl) (by kernel_rfl) (fun _ _ _ h => h) (Or.inl ⟨by rfl, ?_⟩) (by assumption) ?_
                                    rotate_left
                                    · intro w' hSw
                                      (try dsimp only at hSw)
                                      go_simp
                                      try with_reducible rfl
                                    try simp only [Act.put, List.getElem_toArray, List.getElem_cons_zero, List.getElem_cons_succ, List.setIfInBounds_toArray, List.set_cons_zero, List.set_cons_succ]
                                    refine wpAnyH_take (i := 3) (v := ?_) rfl (by kernel_rfl) (by kernel_rfl) (by kernel_rfl) (fun _ _ _ h => h) (Or.inl ⟨by rfl, ?_⟩) (by assumption) ?_
                                    rotate_left
                                    · intro w' hSw
                                      (try dsimp only at hSw)
                                      go_simp
                                      try with_reducible rfl
                                    try simp only [Act.put, List.getElem_toArray, List.getElem_cons_zero, List.getElem_cons_succ, List.setIfInBounds_toArray, List.set_cons_zero, List.set_cons_succ]
                                    refine wpAnyH_take (i := 4) (v := ?_) rfl (by kernel_rfl) (by kernel_rfl) (by kernel_rfl) (fun _ _ _ h => h) (Or.inl ⟨by rfl, ?_⟩) (by assumption) ?_
                                    rotate_left
                                    · intro w' hSw
                                      (try dsimp only at hSw)
                                      go_simp
                                      try with_reducible rfl
                                    try simp only [Act.put, List.getElem_toArray, List.getElem_cons_zero, List.getElem_cons_succ, List.setIfInBounds_toArray, List.set_cons_zero, List.set_cons_succ]
                                    refine wpAnyH_take (i := 5) (v := ?_) rfl (by kernel_rfl) (by kernel_rfl) (by kernel_rfl) (fun _ _ _ h => h) (Or.inl ⟨by rfl, ?_⟩) (by assumption) ?_
                                    rotate_left
                                    · intro w' hSw
                                      (try dsimp only at hSw)
                                      go_simp
                                      try with_reducible rfl
                                    try simp only [Act.put, List.getElem_toArray, List.getElem_cons_zero, List.getElem_cons_succ, List.setIfInBounds_toArray, List.set_cons_zero, List.set_cons_succ]
                                    refine wpAnyH_take (i := 6) (v := ?_) rfl (by kernel_rfl) (by kernel_rfl) (by kernel_rfl) (fun _ _ _ h => h) (Or.inl ⟨by rfl, ?_⟩) (by assumption) ?_
                                    rotate_left
                                    · intro w' hSw
                                      (try dsimp only at hSw)
                                      go_simp
                                      try with_reducible rfl
                                    try simp only [Act.put, List.getElem_toArray, List.getElem_cons_zero, List.getElem_cons_succ, List.setIfInBounds_toArray, List.set_cons_zero, List.set_cons_succ]
                                    refine wpAnyH_take (i := 7) (v := ?_) rfl (by kernel_rfl) (by kernel_rfl) (by kernel_rfl) (fun _ _ _ h => h) (Or.inl ⟨by rfl, ?_⟩) (by assumption) ?_
                                    rotate_left
                                    · intro w' hSw
                                      (try dsimp only at hSw)
                                      go_simp
                                      try with_reducible rfl
                                    try simp only [Act.put, List.getElem_toArray, List.getElem_cons_zero, List.getElem_cons_succ, List.setIfInBounds_toArray, List.set_cons_zero, List.set_cons_succ]
                                    refine wpAnyH_take (i := 8) (v := ?_) rfl (by kernel_rfl) (by kernel_rfl) (by kernel_rfl) (fun _ _ _ h => h) (Or.inl ⟨by rfl, ?_⟩) (by assumption) ?_
                                    rotate_left
                                    · intro w' hSw
                                      (try dsimp only at hSw)
                                      go_simp
                                      try with_reducible rfl
                                    try simp only [Act.put, List.getElem_toArray, List.getElem_cons_zero, List.getElem_cons_succ, List.setIfInBounds_toArray, List.set_cons_zero, List.set_cons_succ]
                                    refine wpAnyH_take (i := 9) (v := ?_) rfl (by kernel_rfl) (by kernel_rfl) (by kernel_rfl) (fun _ _ _ h => h) (Or.inl ⟨by rfl, ?_⟩) (by assumption) ?_
                                    rotate_left
                                    · intro w' hSw
                                      (try dsimp only at hSw)
                                      go_simp
                                      try with_reducible rfl
                                    try simp only [Act.put, List.getElem_toArray, List.getElem_cons_zero, List.getElem_cons_succ, List.setIfInBounds_toArray, List.set_cons_zero, List.set_cons_succ]
                                    refine wpAnyH_take (i := 10) (v := ?_) rfl (by kernel_rfl) (by kernel_rfl) (by kernel_rfl) (fun _ _ _ h => h) (Or.inl ⟨by rfl, ?_⟩) (by assumption) ?_
                                    rotate_left
                                    · intro w' hSw
                                      (try dsimp only at hSw)
                                      go_simp
                                      try with_reducible rfl
                                    try simp only [Act.put, List.getElem_toArray, List.getElem_cons_zero, List.getElem_cons_succ, List.setIfInBounds_toArray, List.set_cons_zero, List.set_cons_succ]
                                    refine wpAnyH_take (i := 11) (v := ?_) rfl (by kernel_rfl) (by kernel_rfl) (by kernel_rfl) (fun _ _ _ h => h) (Or.inl ⟨by rfl, ?_⟩) (by assumption) ?_
                                    rotate_left
                                    · intro w' hSw
                                      (try dsimp only at hSw)
                                      go_simp
                                      try with_reducible rfl
                                    try simp only [Act.put, List.getElem_toArray, List.getElem_cons_zero, List.getElem_cons_succ, List.setIfInBounds_toArray, List.set_cons_zero, List.set_cons_succ]
                                    refine wpAnyH_take (i := 12) (v := ?_) rfl (by kernel_rfl) (by kernel_rfl) (by kernel_rfl) (fun _ _ _ h => h) (Or.inl ⟨by rfl, ?_⟩) (by assumption) ?_
                                    rotate_left
                                    · intro w' hSw
                                      (try dsimp only at hSw)
                                      go_simp
                                      try with_reducible rfl
                                    try simp only [Act.put, List.getElem_toArray, List.getElem_cons_zero, List.getElem_cons_succ, List.setIfInBounds_toArray, List.set_cons_zero, List.set_cons_succ]
                                    refine wpAnyH_take (i := 13) (v := ?_) rfl (by kernel_rfl) (by kernel_rfl) (by kernel_rfl) (fun _ _ _ h => h) (Or.inl ⟨by rfl, ?_⟩) (by assumption) ?_
                                    rotate_left
                                    · intro w' hSw
                                      (try dsimp only at hSw)
                                      go_simp
                                      try with_reducible rfl
                                    try simp only [Act.put, List.getElem_toArray, List.getElem_cons_zero, List.getElem_cons_succ, List.setIfInBounds_toArray, List.set_cons_zero, List.set_cons_succ]
                                    refine wpAnyH_take (i := 14) (v := ?_) rfl (by kernel_rfl) (by kernel_rfl) (by kernel_rfl) (fun _ _ _ h => h) (Or.inl ⟨by rfl, ?_⟩) (by assumption) ?_
                                    rotate_left
                                    · intro w' hSw
                                      (try dsimp only at hSw)
                                      go_simp
                                      try with_reducible rfl
                                    try simp only [Act.put, List.getElem_toArray, List.getElem_cons_zero, List.getElem_cons_succ, List.setIfInBounds_toArray, List.set_cons_zero, List.set_cons_succ]
                                    refine wpAnyH_ready (rs := [15]) (by kernel_rfl) (by simp) ?_
                                    refine (AllReadyH.cons rfl (fun K hK => ?_) AllReadyH.nil)
                                    have HKK := Lib.hid hK
                                    clear hK
                                    go_simp
                                    refine (inLoop_any l x.a _).mono ?_
                                    rintro e w8 ⟨rfl, hb8⟩
                                    try dsimp only
                                    rw [za]
                                    have N1 := Lib.hid (N0.out.below hb8)
                                    have HB1 : Hid (Below wr.drew.heap.size wr.drew w8) := hb8
                                    have s1 := HLW.out _ hb8
                                    clear hb8
                                    refine HKK.out _ _ s1 (fun hHeld => ?_)
                                    clear HKK K
                                    try simp only [Act.put, List.getElem_toArray, List.getElem_cons_zero, List.getElem_cons_succ, List.setIfInBounds_toArray, List.set_cons_zero, List.set_cons_succ]
                                    refine wpAnyH_take (i := 16) (v := ?_) rfl (by kernel_rfl) (by kernel_rfl) (by kernel_rfl) (fun _ _ _ h => h) (Or.inl ⟨by rfl, ?_⟩) (by assumption) ?_
                                    rotate_left
                                    · intro w' hSw
                                      (try dsimp only at hSw)
                                      go_simp
                                      try with_reducible rfl
                                    try simp only [Act.put, List.getElem_toArray, List.getElem_cons_zero, List.getElem_cons_succ, List.setIfInBounds_toArray, List.set_cons_zero, List.set_cons_succ]
                                    refine wpAnyH_take (i := 17) (v := ?_) rfl (by kernel_rfl) (by kernel_rfl) (by kernel_rfl) (fun _ _ _ h => h) (Or.inl ⟨by rfl, ?_⟩) (by assumption) ?_
                                    rotate_left
                                    · intro w' hSw
                                      (try dsimp only at hSw)
                                      go_simp
                                      try with_reducible rfl
                                    try simp only [Act.put, List.getElem_toArray, List.getElem_cons_zero, List.getElem_cons_succ, List.setIfInBounds_toArray, List.set_cons_zero, List.set_cons_succ]
                                    refine wpAnyH_take (i := 18) (v := ?_) rfl (by kernel_rfl) (by kernel_rfl) (by kernel_rfl) (fun _ _ _ h => h) (Or.inl ⟨by rfl, ?_⟩) (by assumption) ?_
                                    rotate_left
                                    · intro w' hSw
                                      (try dsimp only at hSw)
                                      go_simp
                                      try with_reducible rfl
                                    try simp only [Act.put, List.getElem_toArray, List.getElem_cons_zero, List.getElem_cons_succ, List.setIfInBounds_toArray, List.set_cons_zero, List.set_cons_succ]
                                    refine wpAnyH_take (i := 19) (v := ?_) rfl (by kernel_rfl) (by kernel_rfl) (by kernel_rfl) (fun _ _ _ h => h) (Or.inl ⟨by rfl, ?_⟩) (by assumption) ?_
                                    rotate_left
                                    · intro w' hSw
                                      (try dsimp only at hSw)
                                      go_simp
                                      try with_reducible rfl
                                    try simp only [Act.put, List.getElem_toArray, List.getElem_cons_zero, List.getElem_cons_succ, List.setIfInBounds_toArray, List.set_cons_zero, List.set_cons_succ]
                                    refine wpAnyH_take (i := 20) (v := ?_) rfl (by kernel_rfl) (by kernel_rfl) (by kernel_rfl) (fun _ _ _ h => h) (Or.inl ⟨by rfl, ?_⟩) (by assumption) ?_
                                    rotate_left
                                    · intro w' hSw
                                      (try dsimp only at hSw)
                                      go_simp
                                      try with_reducible rfl
                                    try simp only [Act.put, List.getElem_toArray, List.getElem_cons_zero, List.getElem_cons_succ, List.setIfInBounds_toArray, List.set_cons_zero, List.set_cons_succ]
                                    refine wpAnyH_take (i := 21) (v := ?_) rfl (by kernel_rfl) (by kernel_rfl) (by kernel_rfl) (fun _ _ _ h => h) (Or.inl ⟨by rfl, ?_⟩) (by assumption) ?_
                                    rotate_left
                                    · intro w' hSw
                                      (try dsimp only at hSw)
                                      go_simp
                                      try with_reducible rfl
                                    try simp only [Act.put, List.getElem_toArray, List.getElem_cons_zero, List.getElem_cons_succ, List.setIfInBounds_toArray, List.set_cons_zero, List.set_cons_succ]
                                    refine wpAnyH_take (i := 22) (v := ?_) rfl (by kernel_rfl) (by kernel_rfl) (by kernel_rfl) (fun _ _ _ h => h) (Or.inl ⟨by rfl, ?_⟩) (by assumption) ?_
                                    rotate_left
                                    · intro w' hSw
                                      (try dsimp only at hSw)
                                      go_simp
                                      try with_reducible rfl
                                    try simp only [Act.put, List.getElem_toArray, List.getElem_cons_zero, List.getElem_cons_succ, List.setIfInBounds_toArray, List.set_cons_zero, List.set_cons_succ]
                                    refine wpAnyH_ready (rs := [23]) (by kernel_rfl) (by simp) ?_
                                    refine (AllReadyH.cons rfl (fun K hK => ?_) AllReadyH.nil)
                                    have HKK := Lib.hid hK
                                    clear hK
                                    go_simp
                                    refine (inLoop_any l (m : Int) _).mono ?_
                                    rintro e w9 ⟨rfl, hb9⟩
                                    try dsimp only
                                    rw [zb]
                                    have N2 := Lib.hid (N1.out.below hb9)
                                    have s2 := HLW.out _ (HB1.out.trans (hb9.mono HB1.out.size))
                                    clear hb9
                                    refine HKK.out _ _ s2 (fun hHeld => ?_)
                                    clear HKK K
                                    try simp only [Act.put, List.getElem_toArray, List.getElem_cons_zero, List.getElem_cons_succ, List.setIfInBounds_toArray, List.set_cons_zero, List.set_cons_succ]
                                    refine wpAnyH_take (i := 24) (v := ?_) rfl (by kernel_rfl) (by kernel_rfl) (by kernel_rfl) (fun _ _ _ h => h) (Or.inl ⟨by rfl, ?_⟩) (by assumption) ?_
                                    rotate_left
                                    · intro w' hSw
                                      (try dsimp only at hSw)
                                      go_simp
                                      try with_reducible rfl
                                    try simp only [Act.put, List.getElem_toArray, List.getElem_cons_zero, List.getElem_cons_succ, List.setIfInBounds_toArray, List.set_cons_zero, List.set_cons_succ]
                                    refine wpAnyH_take (i := 25) (v := ?_) rfl (by kernel_rfl) (by kernel_rfl) (by kernel_rfl) (fun _ _ _ h => h) (Or.inl ⟨by rfl, ?_⟩) (by assumption) ?_
                                    rotate_left
                                    · intro w' hSw
                                      (try dsimp only at hSw)
                                      go_simp
                                      try with_reducible rfl
                                    try simp only [Act.put, List.getElem_toArray, List.getElem_cons_zero, List.getElem_cons_succ, List.setIfInBounds_toArray, List.set_cons_zero, List.set_cons_succ]
                                    refine wpAnyH_done (by kernel_rfl) ?_ _
                                    have MN : Hid (∃ Ks, Mem w w9 (⟨g11, 50, #[.int .i64 x.op, .int .i64 x.a, .int .i64 x.b, .int .i64 x.c]⟩ :: ⟨g6, 43, #[.int .i64 vk, .string vname, .slice fA fn fc, .slice sA sn sc, .slice (some ⟨b3, o3, none⟩) i tc]⟩ :: ⟨gb + 1, 28, #[.int .i64 0, .int .i64 0, .int .i64 0]⟩ :: ⟨gb, 24, #[.slice (some ⟨b, o, none⟩) N c]⟩ :: Ks) [⟨53, 4, some ⟨b5, o5, none⟩, q, c5, loopsV L⟩, ⟨3, 1, B, k, cB, ints (natL bs)⟩]) := Lib.hid ⟨_, N2.out⟩
                                    have HN : Hid ((false = true ∧ JAt L x m (j + 1)) ∨ (false = false ∧ ¬ JAt L x m q)) := Lib.hid (.inr ⟨rfl, fun h => h HJP.out j l hjq HL.out ⟨HA1.out, HB2.out⟩⟩)
                                    clear hHeld sE s1 s2
                                    go_wp2
                                    go_roundw
                                    case rel => exact ⟨j + 1, false, by omega, by go_num, rfl, HN, MN⟩
                                    case measure => simp [intOf]; omega
                                · have za : decide (inL l x.a) = false := decide_eq_false ha
                                  have HA1 := Lib.hid ha
                                  clear ha
                                  go_upto_region 23 with fail
                                  refine wp_region_held_drew (S := fun w' => w'.cell? ⟨g11, 0, none⟩ = some (.int .i64 x.op) ∧ w'.cell? ⟨g11, 1, none⟩ = some (.int .i64 x.a) ∧ w'.cell? ⟨b5, o5 + j * 4, none⟩ = some (.int .i64 l.fr) ∧ w'.cell? ⟨b5, o5 + j * 4 + 1, none⟩ = some (.int .i64 l.to) ∧ w'.cell? ⟨b5, o5 + j * 4 + 2, none⟩ = some (.int .i64 l.counter) ∧ w'.cell? ⟨b5, o5 + j * 4 + 3, none⟩ = some (.int .i64 l.times)) (by kernel_rfl) ?_ (fun hHeld => ?_)
                                  · exact sE
                                  refine wpAnyH_take (i := 0) (v := ?_) rfl (by kernel_rfl) (by kernel_rfl) (by kernel_rfl) (fun _ _ _ h => h) (Or.inl ⟨by rfl, ?_⟩) (by assumption) ?_
                                  rotate_left
                                  · intro w' hSw
                                    (try dsimp only at hSw)
                                    go_simp
                                    try with_reducible rfl
                                  try simp only [Act.put, List.getElem_toArray, List.getElem_cons_zero, List.setIfInBounds_toArray, List.set_cons_zero, List.set_cons_succ]
                                  refine wpAnyH_take (i := 1) (v := ?_) rfl (by kernel_rfl) (by kernel_rfl) (by kernel_rfl) (fun _ _ _ h => h) (Or.inl ⟨by rfl, ?_⟩) (by assumption) ?_
                                  rotate_left
                                  · intro w' hSw
                                    (try dsimp only at hSw)
                                    go_simp
                                    try with_reducible rfl
                                  try simp only [Act.put, List.getElem_toArray, List.getElem_cons_zero, List.getElem_cons_succ, List.setIfInBounds_toArray, List.set_cons_zero, List.set_cons_succ]
                                  refine wpAnyH_take (i := 2) (v := ?_) rfl (by kernel_rfl) (by kernel_rfl) (by kernel_rfl) (fun _ _ _ h => h) (Or.inl ⟨by rfl, ?_⟩) (by assumption) ?_
                                  rotate_left
                                  · intro w' hSw
                                    (try dsimp only at hSw)
                                    go_simp
                                    try with_reducible rfl
                                  try simp only [Act.put, List.getElem_toArray, List.getElem_cons_zero, List.getElem_cons_succ, List.setIfInBounds_toArray, List.set_cons_zero, List.set_cons_succ]
                                  refine wpAnyH_take (i := 3) (v := ?_) rfl (by kernel_rfl) (by kernel_rfl) (by kernel_rfl) (fun _ _ _ h => h) (Or.inl ⟨by rfl, ?_⟩) (by assumption) ?_
                                  rotate_left
                                  · intro w' hSw
                                    (try dsimp only at hSw)
                                    go_simp
                                    try with_reducible rfl
                                  try simp only [Act.put, List.getElem_toArray, List.getElem_cons_zero, List.getElem_cons_succ, List.setIfInBounds_toArray, List.set_cons_zero, List.set_cons_succ]
                                  refine wpAnyH_take (i := 4) (v := ?_) rfl (by kernel_rfl) (by kernel_rfl) (by kernel_rfl) (fun _ _ _ h => h) (Or.inl ⟨by rfl, ?_⟩) (by assumption) ?_
                                  rotate_left
                                  · intro w' hSw
                                    (try dsimp only at hSw)
                                    go_simp
                                    try with_reducible rfl
                                  try simp only [Act.put, List.getElem_toArray, List.getElem_cons_zero, List.getElem_cons_succ, List.setIfInBounds_toArray, List.set_cons_zero, List.set_cons_succ]
                                  refine wpAnyH_take (i := 5) (v := ?_) rfl (by kernel_rfl) (by kernel_rfl) (by kernel_rfl) (fun _ _ _ h => h) (Or.inl ⟨by rfl, ?_⟩) (by assumption) ?_
                                  rotate_left
                                  · intro w' hSw
                                    (try dsimp only at hSw)
                                    go_simp
                                    try with_reducible rfl
                                  try simp only [Act.put, List.getElem_toArray, List.getElem_cons_zero, List.getElem_cons_succ, List.setIfInBounds_toArray, List.set_cons_zero, List.set_cons_succ]
                                  refine wpAnyH_take (i := 6) (v := ?_) rfl (by kernel_rfl) (by kernel_rfl) (by kernel_rfl) (fun _ _ _ h => h) (Or.inl ⟨by rfl, ?_⟩) (by assumption) ?_
                                  rotate_left
                                  · intro w' hSw
                                    (try dsimp only at hSw)
                                    go_simp
                                    try with_reducible rfl
                                  try simp only [Act.put, List.getElem_toArray, List.getElem_cons_zero, List.getElem_cons_succ, List.setIfInBounds_toArray, List.set_cons_zero, List.set_cons_succ]
                                  refine wpAnyH_take (i := 7) (v := ?_) rfl (by kernel_rfl) (by kernel_rfl) (by kernel_rfl) (fun _ _ _ h => h) (Or.inl ⟨by rfl, ?_⟩) (by assumption) ?_
                                  rotate_left
                                  · intro w' hSw
                                    (try dsimp only at hSw)
                                    go_simp
                                    try with_reducible rfl
                                  try simp only [Act.put, List.getElem_toArray, List.getElem_cons_zero, List.getElem_cons_succ, List.setIfInBounds_toArray, List.set_cons_zero, List.set_cons_succ]
                                  refine wpAnyH_take (i := 8) (v := ?_) rfl (by kernel_rfl) (by kernel_rfl) (by kernel_rfl) (fun _ _ _ h => h) (Or.inl ⟨by rfl, ?_⟩) (by assumption) ?_
                                  rotate_left
                                  · intro w' hSw
                                    (try dsimp only at hSw)
                                    go_simp
                                    try with_reducible rfl
                                  try simp only [Act.put, List.getElem_toArray, List.getElem_cons_zero, List.getElem_cons_succ, List.setIfInBounds_toArray, List.set_cons_zero, List.set_cons_succ]
                                  refine wpAnyH_take (i := 9) (v := ?_) rfl (by kernel_rfl) (by kernel_rfl) (by kernel_rfl) (fun _ _ _ h => h) (Or.inl ⟨by rfl, ?_⟩) (by assumption) ?_
                                  rotate_left
                                  · intro w' hSw
                                    (try dsimp only at hSw)
                                    go_simp
                                    try with_reducible rfl
                                  try simp only [Act.put, List.getElem_toArray, List.getElem_cons_zero, List.getElem_cons_succ, List.setIfInBounds_toArray, List.set_cons_zero, List.set_cons_succ]
                                  refine wpAnyH_take (i := 10) (v := ?_) rfl (by kernel_rfl) (by kernel_rfl) (by kernel_rfl) (fun _ _ _ h => h) (Or.inl ⟨by rfl, ?_⟩) (by assumption) ?_
                                  rotate_left
                                  · intro w' hSw
                                    (try dsimp only at hSw)
                                    go_simp
                                    try with_reducible rfl
                                  try simp only [Act.put, List.getElem_toArray, List.getElem_cons_zero, List.getElem_cons_succ, List.setIfInBounds_toArray, List.set_cons_zero, List.set_cons_succ]
                                  refine wpAnyH_take (i := 11) (v := ?_) rfl (by kernel_rfl) (by kernel_rfl) (by kernel_rfl) (fun _ _ _ h => h) (Or.inl ⟨by rfl, ?_⟩) (by assumption) ?_
                                  rotate_left
                                  · intro w' hSw
                                    (try dsimp only at hSw)
                                    go_simp
                                    try with_reducible rfl
                                  try simp only [Act.put, List.getElem_toArray, List.getElem_cons_zero, List.getElem_cons_succ, List.setIfInBounds_toArray, List.set_cons_zero, List.set_cons_succ]
                                  refine wpAnyH_take (i := 12) (v := ?_) rfl (by kernel_rfl) (by kernel_rfl) (by kernel_rfl) (fun _ _ _ h => h) (Or.inl ⟨by rfl, ?_⟩) (by assumption) ?_
                                  rotate_left
                                  · intro w' hSw
                                    (try dsimp only at hSw)
                                    go_simp
                                    try with_reducible rfl
                                  try simp only [Act.put, List.getElem_toArray, List.getElem_cons_zero, List.getElem_cons_succ, List.setIfInBounds_toArray, List.set_cons_zero, List.set_cons_succ]
                                  refine wpAnyH_take (i := 13) (v := ?_) rfl (by kernel_rfl) (by kernel_rfl) (by kernel_rfl) (fun _ _ _ h => h) (Or.inl ⟨by rfl, ?_⟩) (by assumption) ?_
                                  rotate_left
                                  · intro w' hSw
                                    (try dsimp only at hSw)
                                    go_simp
                                    try with_reducible rfl
                                  try simp only [Act.put, List.getElem_toArray, List.getElem_cons_zero, List.getElem_cons_succ, List.setIfInBounds_toArray, List.set_cons_zero, List.set_cons_succ]
                                  refine wpAnyH_take (i := 14) (v := ?_) rfl (by kernel_rfl) (by kernel_rfl) (by kernel_rfl) (fun _ _ _ h => h) (Or.inl ⟨by rfl, ?_⟩) (by assumption) ?_
                                  rotate_left
                                  · intro w' hSw
                                    (try dsimp only at hSw)
                                    go_simp
                                    try with_reducible rfl
                                  try simp only [Act.put, List.getElem_toArray, List.getElem_cons_zero, List.getElem_cons_succ, List.setIfInBounds_toArray, List.set_cons_zero, List.set_cons_succ]
                                  refine wpAnyH_ready (rs := [15]) (by kernel_rfl) (by simp) ?_
                                  refine (AllReadyH.cons rfl (fun K hK => ?_) AllReadyH.nil)
                                  have HKK := Lib.hid hK
                                  clear hK
                                  go_simp
                                  refine (inLoop_any l x.a _).mono ?_
                                  rintro e w8 ⟨rfl, hb8⟩
                                  try dsimp only
                                  rw [za]
                                  have N1 := Lib.hid (N0.out.below hb8)
                                  have HB1 : Hid (Below wr.drew.heap.size wr.drew w8) := hb8
                                  have s1 := HLW.out _ hb8
                                  clear hb8
                                  refine HKK.out _ _ s1 (fun hHeld => ?_)
                                  clear HKK K
                                  try simp only [Act.put, List.getElem_toArray, List.getElem_cons_zero, List.getElem_cons_succ, List.setIfInBounds_toArray, List.set_cons_zero, List.set_cons_succ]
                                  refine wpAnyH_take (i := 16) (v := ?_) rfl (by kernel_rfl) (by kernel_rfl) (by kernel_rfl) (fun _ _ _ h => h) (Or.inl ⟨by rfl, ?_⟩) (by assumption) ?_
                                  rotate_left
                                  · intro w' hSw
                                    (try dsimp only at hSw)
                                    go_simp
                                    try with_reducible rfl
                                  try simp only [Act.put, List.getElem_toArray, List.getElem_cons_zero, List.getElem_cons_succ, List.setIfInBounds_toArray, List.set_cons_zero, List.set_cons_succ]
                                  refine wpAnyH_take (i := 17) (v := ?_) rfl (by kernel_rfl) (by kernel_rfl) (by kernel_rfl) (fun _ _ _ h => h) (Or.inl ⟨by rfl, ?_⟩) (by assumption) ?_
                                  rotate_left
                                  · intro w' hSw
                                    (try dsimp only at hSw)
                                    go_simp
                                    try with_reducible rfl
                                  try simp only [Act.put, List.getElem_toArray, List.getElem_cons_zero, List.getElem_cons_succ, List.setIfInBounds_toArray, List.set_cons_zero, List.set_cons_succ]
                                  refine wpAnyH_take (i := 18) (v := undef) rfl (by kernel_rfl) (by kernel_rfl) (by kernel_rfl) (fun _ _ _ h => h) (Or.inr ⟨by rfl, rfl⟩) (by assumption) ?_
                                  try simp only [Act.put, List.getElem_toArray, List.getElem_cons_zero, List.getElem_cons_succ, List.setIfInBounds_toArray, List.set_cons_zero, List.set_cons_succ]
                                  refine wpAnyH_take (i := 19) (v := undef) rfl (by kernel_rfl) (by kernel_rfl) (by kernel_rfl) (fun _ _ _ h => h) (Or.inr ⟨by rfl, rfl⟩) (by assumption) ?_
                                  try simp only [Act.put, List.getElem_toArray, List.getElem_cons_zero, List.getElem_cons_succ, List.setIfInBounds_toArray, List.set_cons_zero, List.set_cons_succ]
                                  refine wpAnyH_take (i := 20) (v := undef) rfl (by kernel_rfl) (by kernel_rfl) (by kernel_rfl) (fun _ _ _ h => h) (Or.inr ⟨by rfl, rfl⟩) (by assumption) ?_
                                  try simp only [Act.put, List.getElem_toArray, List.getElem_cons_zero, List.getElem_cons_succ, List.setIfInBounds_toArray, List.set_cons_zero, List.set_cons_succ]
                                  refine wpAnyH_take (i := 21) (v := undef) rfl (by kernel_rfl) (by kernel_rfl) (by kernel_rfl) (fun _ _ _ h => h) (Or.inr ⟨by rfl, rfl⟩) (by assumption) ?_
                                  try simp only [Act.put, List.getElem_toArray, List.getElem_cons_zero, List.getElem_cons_succ, List.setIfInBounds_toArray, List.set_cons_zero, List.set_cons_succ]
                                  refine wpAnyH_take (i := 22) (v := undef) rfl (by kernel_rfl) (by kernel_rfl) (by kernel_rfl) (fun _ _ _ h => h) (Or.inr ⟨by rfl, rfl⟩) (by assumption) ?_
                                  try simp only [Act.put, List.getElem_toArray, List.getElem_cons_zero, List.getElem_cons_succ, List.setIfInBounds_toArray, List.set_cons_zero, List.set_cons_succ]
                                  refine wpAnyH_take (i := 23) (v := undef) rfl (by kernel_rfl) (by kernel_rfl) (by kernel_rfl) (fun _ _ _ h => h) (Or.inr ⟨by rfl, rfl⟩) (by assumption) ?_
                                  try simp only [Act.put, List.getElem_toArray, List.getElem_cons_zero, List.getElem_cons_succ, List.setIfInBounds_toArray, List.set_cons_zero, List.set_cons_succ]
                                  refine wpAnyH_take (i := 24) (v := undef) rfl (by kernel_rfl) (by kernel_rfl) (by kernel_rfl) (fun _ _ _ h => h) (Or.inr ⟨by rfl, rfl⟩) (by assumption) ?_
                                  try simp only [Act.put, List.getElem_toArray, List.getElem_cons_zero, List.getElem_cons_succ, List.setIfInBounds_toArray, List.set_cons_zero, List.set_cons_succ]
                                  refine wpAnyH_take (i := 25) (v := ?_) rfl (by kernel_rfl) (by kernel_rfl) (by kernel_rfl) (fun _ _ _ h => h) (Or.inl ⟨by rfl, ?_⟩) (by assumption) ?_
                                  rotate_left
                                  · intro w' hSw
                                    (try dsimp only at hSw)
                                    go_simp
                                    try with_reducible rfl
                                  try simp only [Act.put, List.getElem_toArray, List.getElem_cons_zero, List.getElem_cons_succ, List.setIfInBounds_toArray, List.set_cons_zero, List.set_cons_succ]
                                  refine wpAnyH_done (by kernel_rfl) ?_ _
                                  have MN : Hid (∃ Ks, Mem w w8 (⟨g11, 50, #[.int .i64 x.op, .int .i64 x.a, .int .i64 x.b, .int .i64 x.c]⟩ :: ⟨g6, 43, #[.int .i64 vk, .string vname, .slice fA fn fc, .slice sA sn sc, .slice (some ⟨b3, o3, none⟩) i tc]⟩ :: ⟨gb + 1, 28, #[.int .i64 0, .int .i64 0, .int .i64 0]⟩ :: ⟨gb, 24, #[.slice (some ⟨b, o, none⟩) N c]⟩ :: Ks) [⟨53, 4, some ⟨b5, o5, none⟩, q, c5, loopsV L⟩, ⟨3, 1, B, k, cB, ints (natL bs)⟩]) := Lib.hid ⟨_, N1.out⟩
                                  have HN : Hid ((ok = true ∧ JAt L x m (j + 1)) ∨ (ok = false ∧ ¬ JAt L x m q)) := Lib.hid (HA.out.imp (fun h => ⟨h.1, jat_snoc h.2 HL.out (fun _ h => HA1.out h.1)⟩) (fun h => h))
                                  clear hHeld sE s1
                                  go_wp2
                                  go_roundw
                                  case rel => exact ⟨j + 1, ok, by omega, by go_num, rfl, HN, MN⟩
                                  case measure => simp [intOf]; omega
                              · have z12 : (x.op == 12) = false := by simp [h12]
                                have HJN : Hid (¬ (x.op = 11 ∨ x.op = 12)) := Lib.hid (fun h => h.elim h11 h12)
                                clear h11 h12
                                go_upto_region 23 with fail
                                refine wp_region_held_drew (S := fun w' => w'.cell? ⟨g11, 0, none⟩ = some (.int .i64 x.op) ∧ w'.cell? ⟨g11, 1, none⟩ = some (.int .i64 x.a) ∧ w'.cell? ⟨b5, o5 + j * 4, none⟩ = some (.int .i64 l.fr) ∧ w'.cell? ⟨b5, o5 + j * 4 + 1, none⟩ = some (.int .i64 l.to) ∧ w'.cell? ⟨b5, o5 + j * 4 + 2, none⟩ = some (.int .i64 l.counter) ∧ w'.cell? ⟨b5, o5 + j * 4 + 3, none⟩ = some (.int .i64 l.times)) (by kernel_rfl) ?_ (fun hHeld => ?_)
                                · exact sE
                                refine wpAnyH_take (i := 0) (v := ?_) rfl (by kernel_rfl) (by kernel_rfl) (by kernel_rfl) (fun _ _ _ h => h) (Or.inl ⟨by rfl, ?_⟩) (by assumption) ?_
                                rotate_left
                                · intro w' hSw
                                  (try dsimp only at hSw)
                                  go_simp
                                  try with_reducible rfl
                                try simp only [Act.put, List.getElem_toArray, List.getElem_cons_zero, List.setIfInBounds_toArray, List.set_cons_zero, List.set_cons_succ]
                                refine wpAnyH_take (i := 1) (v := ?_) rfl (by kernel_rfl) (by kernel_rfl) (by kernel_rfl) (fun _ _ _ h => h) (Or.inl ⟨by rfl, ?_⟩) (by assumption) ?_
                                rotate_left
                                · intro w' hSw
                                  (try dsimp only at hSw)
                                  go_simp
                                  try with_reducible rfl
                                try simp only [Act.put, List.getElem_toArray, List.getElem_cons_zero, List.getElem_cons_succ, List.setIfInBounds_toArray, List.set_cons_zero, List.set_cons_succ]
                                refine wpAnyH_take (i := 2) (v := ?_) rfl (by kernel_rfl) (by kernel_rfl) (by kernel_rfl) (fun _ _ _ h => h) (Or.inl ⟨by rfl, ?_⟩) (by assumption) ?_
                                rotate_left
                                · intro w' hSw
                                  (try dsimp only at hSw)
                                  go_simp
                                  try with_reducible rfl
                                try simp only [Act.put, List.getElem_toArray, List.getElem_cons_zero, List.getElem_cons_succ, List.setIfInBounds_toArray, List.set_cons_zero, List.set_cons_succ]
                                refine wpAnyH_take (i := 3) (v := ?_) rfl (by kernel_rfl) (by kernel_rfl) (by kernel_rfl) (fun _ _ _ h => h) (Or.inl ⟨by rfl, ?_⟩) (by assumption) ?_
                                rotate_left
                                · intro w' hSw
                                  (try dsimp only at hSw)
                                  go_simp
                                  try with_reducible rfl
                                try simp only [Act.put, List.getElem_toArray, List.getElem_cons_zero, List.getElem_cons_succ, List.setIfInBounds_toArray, List.set_cons_zero, List.set_cons_succ]
                                refine wpAnyH_take (i := 4) (v := ?_) rfl (by kernel_rfl) (by kernel_rfl) (by kernel_rfl) (fun _ _ _ h => h) (Or.inl ⟨by rfl, ?_⟩) (by assumption) ?_
                                rotate_left
                                · intro w' hSw
                                  (try dsimp only at hSw)
                                  go_simp
                                  try with_reducible rfl
                                try simp only [Act.put, List.getElem_toArray, List.getElem_cons_zero, List.getElem_cons_succ, List.setIfInBounds_toArray, List.set_cons_zero, List.set_cons_succ]
                                refine wpAnyH_take (i := 5) (v := ?_) rfl (by kernel_rfl) (by kernel_rfl) (by kernel_rfl) (fun _ _ _ h => h) (Or.inl ⟨by rfl, ?_⟩) (by assumption) ?_
                                rotate_left
                                · intro w' hSw
                                  (try dsimp only at hSw)
                                  go_simp
                                  try with_reducible rfl
                                try simp only [Act.put, List.getElem_toArray, List.getElem_cons_zero, List.getElem_cons_succ, List.setIfInBounds_toArray, List.set_cons_zero, List.set_cons_succ]
                                refine wpAnyH_take (i := 6) (v := ?_) rfl (by kernel_rfl) (by kernel_rfl) (by kernel_rfl) (fun _ _ _ h => h) (Or.inl ⟨by rfl, ?_⟩) (by assumption) ?_
                                rotate_left
                                · intro w' hSw
                                  (try dsimp only at hSw)
                                  go_simp
                                  try with_reducible rfl
                                try simp only [Act.put, List.getElem_toArray, List.getElem_cons_zero, List.getElem_cons_succ, List.setIfInBounds_toArray, List.set_cons_zero, List.set_cons_succ]
                                refine wpAnyH_take (i := 7) (v := ?_) rfl (by kernel_rfl) (by kernel_rfl) (by kernel_rfl) (fun _ _ _ h => h) (Or.inl ⟨by rfl, ?_⟩) (by assumption) ?_
                                rotate_left
                                · intro w' hSw
                                  (try dsimp only at hSw)
                                  go_simp
                                  try with_reducible rfl
                                try simp only [Act.put, List.getElem_toArray, List.getElem_cons_zero, List.getElem_cons_succ, List.setIfInBounds_toArray, List.set_cons_zero, List.set_cons_succ]
                                refine wpAnyH_take (i := 8) (v := ?_) rfl (by kernel_rfl) (by kernel_rfl) (by kernel_rfl) (fun _ _ _ h => h) (Or.inl ⟨by rfl, ?_⟩) (by assumption) ?_
                                rotate_left
                                · intro w' hSw
                                  (try dsimp only at hSw)
                                  go_simp
                                  try with_reducible rfl
                                try simp only [Act.put, List.getElem_toArray, List.getElem_cons_zero, List.getElem_cons_succ, List.setIfInBounds_toArray, List.set_cons_zero, List.set_cons_succ]
                                refine wpAnyH_take (i := 9) (v := undef) rfl (by kernel_rfl) (by kernel_rfl) (by kernel_rfl) (fun _ _ _ h => h) (Or.inr ⟨by rfl, rfl⟩) (by assumption) ?_
                                try simp only [Act.put, List.getElem_toArray, List.getElem_cons_zero, List.getElem_cons_succ, List.setIfInBounds_toArray, List.set_cons_zero, List.set_cons_succ]
                                refine wpAnyH_take (i := 10) (v := undef) rfl (by kernel_rfl) (by kernel_rfl) (by kernel_rfl) (fun _ _ _ h => h) (Or.inr ⟨by rfl, rfl⟩) (by assumption) ?_
                                try simp only [Act.put, List.getElem_toArray, List.getElem_cons_zero, List.getElem_cons_succ, List.setIfInBounds_toArray, List.set_cons_zero, List.set_cons_succ]
                                refine wpAnyH_take (i := 11) (v := undef) rfl (by kernel_rfl) (by kernel_rfl) (by kernel_rfl) (fun _ _ _ h => h) (Or.inr ⟨by rfl, rfl⟩) (by assumption) ?_
                                try simp only [Act.put, List.getElem_toArray, List.getElem_cons_zero, List.getElem_cons_succ, List.setIfInBounds_toArray, List.set_cons_zero, List.set_cons_succ]
                                refine wpAnyH_take (i := 12) (v := undef) rfl (by kernel_rfl) (by kernel_rfl) (by kernel_rfl) (fun _ _ _ h => h) (Or.inr ⟨by rfl, rfl⟩) (by assumption) ?_
                                try simp only [Act.put, List.getElem_toArray, List.getElem_cons_zero, List.getElem_cons_succ, List.setIfInBounds_toArray, List.set_cons_zero, List.set_cons_succ]
                                refine wpAnyH_take (i := 13) (v := undef) rfl (by kernel_rfl) (by kernel_rfl) (by kernel_rfl) (fun _ _ _ h => h) (Or.inr ⟨by rfl, rfl⟩) (by assumption) ?_
                                try simp only [Act.put, List.getElem_toArray, List.getElem_cons_zero, List.getElem_cons_succ, List.setIfInBounds_toArray, List.set_cons_zero, List.set_cons_succ]
                                refine wpAnyH_take (i := 14) (v := undef) rfl (by kernel_rfl) (by kernel_rfl) (by kernel_rfl) (fun _ _ _ h => h) (Or.inr ⟨by rfl, rfl⟩) (by assumption) ?_
                                try simp only [Act.put, List.getElem_toArray, List.getElem_cons_zero, List.getElem_cons_succ, List.setIfInBounds_toArray, List.set_cons_zero, List.set_cons_succ]
                                refine wpAnyH_take (i := 15) (v := undef) rfl (by kernel_rfl) (by kernel_rfl) (by kernel_rfl) (fun _ _ _ h => h) (Or.inr ⟨by rfl, rfl⟩) (by assumption) ?_
                                try simp only [Act.put, List.getElem_toArray, List.getElem_cons_zero, List.getElem_cons_succ, List.setIfInBounds_toArray, List.set_cons_zero, List.set_cons_succ]
                                refine wpAnyH_take (i := 16) (v := ?_) rfl (by kernel_rfl) (by kernel_rfl) (by kernel_rfl) (fun _ _ _ h => h) (Or.inl ⟨by rfl, ?_⟩) (by assumption) ?_
                                rotate_left
                                · intro w' hSw
                                  (try dsimp only at hSw)
                                  go_simp
                                  try with_reducible rfl
                                try simp only [Act.put, List.getElem_toArray, List.getElem_cons_zero, List.getElem_cons_succ, List.setIfInBounds_toArray, List.set_cons_zero, List.set_cons_succ]
                                refine wpAnyH_take (i := 17) (v := ?_) rfl (by kernel_rfl) (by kernel_rfl) (by kernel_rfl) (fun _ _ _ h => h) (Or.inl ⟨by rfl, ?_⟩) (by assumption) ?_
                                rotate_left
                                · intro w' hSw
                                  (try dsimp only at hSw)
                                  go_simp
                                  try with_reducible rfl
                                try simp only [Act.put, List.getElem_toArray, List.getElem_cons_zero, List.getElem_cons_succ, List.setIfInBounds_toArray, List.set_cons_zero, List.set_cons_succ]
                                refine wpAnyH_take (i := 18) (v := undef) rfl (by kernel_rfl) (by kernel_rfl) (by kernel_rfl) (fun _ _ _ h => h) (Or.inr ⟨by rfl, rfl⟩) (by assumption) ?_
                                try simp only [Act.put, List.getElem_toArray, List.getElem_cons_zero, List.getElem_cons_succ, List.setIfInBounds_toArray, List.set_cons_zero, List.set_cons_succ]
                                refine wpAnyH_take (i := 19) (v := undef) rfl (by kernel_rfl) (by kernel_rfl) (by kernel_rfl) (fun _ _ _ h => h) (Or.inr ⟨by rfl, rfl⟩) (by assumption) ?_
                                try simp only [Act.put, List.getElem_toArray, List.getElem_cons_zero, List.getElem_cons_succ, List.setIfInBounds_toArray, List.set_cons_zero, List.set_cons_succ]
                                refine wpAnyH_take (i := 20) (v := undef) rfl (by kernel_rfl) (by kernel_rfl) (by kernel_rfl) (fun _ _ _ h => h) (Or.inr ⟨by rfl, rfl⟩) (by assumption) ?_
                                try simp only [Act.put, List.getElem_toArray, List.getElem_cons_zero, List.getElem_cons_succ, List.setIfInBounds_toArray, List.set_cons_zero, List.set_cons_succ]
                                refine wpAnyH_take (i := 21) (v := undef) rfl (by kernel_rfl) (by kernel_rfl) (by kernel_rfl) (fun _ _ _ h => h) (Or.inr ⟨by rfl, rfl⟩) (by assumption) ?_
                                try simp only [Act.put, List.getElem_toArray, List.getElem_cons_zero, List.getElem_cons_succ, List.setIfInBounds_toArray, List.set_cons_zero, List.set_cons_succ]
                                refine wpAnyH_take (i := 22) (v := undef) rfl (by kernel_rfl) (by kernel_rfl) (by kernel_rfl) (fun _ _ _ h => h) (Or.inr ⟨by rfl, rfl⟩) (by assumption) ?_
                                try simp only [Act.put, List.getElem_toArray, List.getElem_cons_zero, List.getElem_cons_succ, List.setIfInBounds_toArray, List.set_cons_zero, List.set_cons_succ]
                                refine wpAnyH_take (i := 23) (v := undef) rfl (by kernel_rfl) (by kernel_rfl) (by kernel_rfl) (fun _ _ _ h => h) (Or.inr ⟨by rfl, rfl⟩) (by assumption) ?_
                                try simp only [Act.put, List.getElem_toArray, List.getElem_cons_zero, List.getElem_cons_succ, List.setIfInBounds_toArray, List.set_cons_zero, List.set_cons_succ]
                                refine wpAnyH_take (i := 24) (v := undef) rfl (by kernel_rfl) (by kernel_rfl) (by kernel_rfl) (fun _ _ _ h => h) (Or.inr ⟨by rfl, rfl⟩) (by assumption) ?_
                                try simp only [Act.put, List.getElem_toArray, List.getElem_cons_zero, List.getElem_cons_succ, List.setIfInBounds_toArray, List.set_cons_zero, List.set_cons_succ]
                                refine wpAnyH_take (i := 25) (v := ?_) rfl (by kernel_rfl) (by kernel_rfl) (by kernel_rfl) (fun _ _ _ h => h) (Or.inl ⟨by rfl, ?_⟩) (by assumption) ?_
                                rotate_left
                                · intro w' hSw
                                  (try dsimp only at hSw)
                                  go_simp
                                  try with_reducible rfl
                                try simp only [Act.put, List.getElem_toArray, List.getElem_cons_zero, List.getElem_cons_succ, List.setIfInBounds_toArray, List.set_cons_zero, List.set_cons_succ]
                                refine wpAnyH_done (by kernel_rfl) ?_ _
                                have MN : Hid (∃ Ks, Mem w wr.drew (⟨g11, 50, #[.int .i64 x.op, .int .i64 x.a, .int .i64 x.b, .int .i64 x.c]⟩ :: ⟨g6, 43, #[.int .i64 vk, .string vname, .slice fA fn fc, .slice sA sn sc, .slice (some ⟨b3, o3, none⟩) i tc]⟩ :: ⟨gb + 1, 28, #[.int .i64 0, .int .i64 0, .int .i64 0]⟩ :: ⟨gb, 24, #[.slice (some ⟨b, o, none⟩) N c]⟩ :: Ks) [⟨53, 4, some ⟨b5, o5, none⟩, q, c5, loopsV L⟩, ⟨3, 1, B, k, cB, ints (natL bs)⟩]) := Lib.hid ⟨_, N0.out⟩
                                have HN : Hid ((ok = true ∧ JAt L x m (j + 1)) ∨ (ok = false ∧ ¬ JAt L x m q)) := Lib.hid (HA.out.imp (fun h => ⟨h.1, jat_snoc h.2 HL.out (fun ho => absurd ho HJN.out)⟩) (fun h => h))
                                clear hHeld sE
                                go_wp2
                                go_roundw
                                case rel => exact ⟨j + 1, ok, by omega, by go_num, rfl, HN, MN⟩
                                case measure => simp [intOf]; omega
                          · obtain rfl : j = q := by omega
                            have hjj : ¬ (j : Int) < (j : Int) := by omega
                            have HN : Hid ((ok = true ∧ JumpsOk p.text L (m + 1)) ∨ (ok = false ∧ ¬ JumpsOk p.text L i)) := Lib.hid (by
                              rcases HA.out with ⟨h1, h2⟩ | ⟨h1, h2⟩
                              · refine .inl ⟨h1, fun i' x' hi' hx' ho l hl => ?_⟩
                                rcases HJ.out with ⟨_, h4⟩ | ⟨h4, _⟩
                                · by_cases e : i' < m
                                  · exact h4 i' x' e hx' ho l hl
                                  · obtain rfl : i' = m := by omega
                                    rw [HX.out] at hx'
                                    obtain rfl := Option.some.inj hx'
                                    obtain ⟨j', hj'⟩ := List.getElem?_of_mem hl
                                    exact h2 ho j' l (by rw [← HLQ.out.2]; exact (List.getElem?_eq_some_iff.1 hj').1) hj'
                                · cases h4
                              · refine .inr ⟨h1, fun h => h2 fun ho j' l hj' hl => ?_⟩
                                exact h m x hmi HX.out ho l (List.mem_of_getElem? hl))
                            have MR : Hid (∃ Ks, Mem w wr (⟨g6, 43, #[.int .i64 vk, .string vname, .slice fA fn fc, .slice sA sn sc, .slice (some ⟨b3, o3, none⟩) i tc]⟩ :: ⟨gb + 1, 28, #[.int .i64 0, .int .i64 0, .int .i64 0]⟩ :: ⟨gb, 24, #[.slice (some ⟨b, o, none⟩) N c]⟩ :: Ks) [⟨53, 4, L5, j, c5, loopsV L⟩, ⟨3, 1, B, k, cB, ints (natL bs)⟩]) := Lib.hid ⟨_, M7.out.delK 0⟩
                            clear M6 M7
                            go_wp2
                            go_roundw
                            case rel => exact ⟨m + 1, ok, by omega, by go_num, rfl, HN, MR⟩
                            case measure => simp [intOf]; omega
                      · obtain rfl : m = i := by omega
                        have hmm : ¬ (m : Int) < (m : Int) := by omega
                        have HJ2 : Hid (JumpsOk p.text L m) := Lib.hid (by
                          rcases HJ.out with h1 | h1
                          · exact h1.2
                          · cases h1.1)
                        go_wp2_with fail
                        refine (stackOk_any tA m tc p.text wr (HTR.out _ M4.out.bel) hp2 (al_ts HAL.out.2)).mono ?_
                        rintro e w7 ⟨rfl, hb7⟩
                        dsimp only
                        have M5 := Lib.hid (M4.out.below hb7)
                        clear hb7 M4 y4
                        obtain ⟨lv, hlv⟩ : ∃ lv, levF p.text = lv := ⟨_, rfl⟩
                        rw [hlv]
                        have HLV := Lib.hid hlv
                        clear hlv
                        cases lv
                        · have HB2 : Hid (¬ LookOk ps k p) := Lib.hid (fun h => by have := h.levels; rw [HLV.out] at this; cases this)
                          have HO := Lib.hid (Out.bad (ps := ps) k bs p (by rw [HLEN.out]; omega) HV.out HP.out HB2.out)
                          have bz := M5.out.cellK 1 rfl
                          have fz := M5.out.frozenK 1 rfl
                          have kz := (M5.out.ltK 1 rfl).2
                          have MS := Lib.hid ((((M5.out.upK 1 rfl).set (i := 0) (.int .i64 12)).set (i := 1) (.int .i64 k)).set (i := 2) (.int .i64 0))
                          clear M5
                          go_wp2
                          refine bodyPost_ret (v := .tuple #[.slice none 0 0, .agg #[.int .i64 12, .int .i64 k, .int .i64 0]]) ?_ rfl ?_
                          · simp [results, Tryd.results5, go_sem, bz]
                          · exact ⟨_, HO.out, OutR.nil 12 k rfl MS.out.bel⟩
                        · have HLK : Hid (LookOk ps k p) := Lib.hid ⟨HAL.out.1, HAL.out.2, HG.out, by rw [HLL.out, HQ.out.2.2]; exact HJ2.out, HLV.out⟩
                          have y4 : w7.cell? ⟨g6, 4, none⟩ = some (.slice tA m tc) := M5.out.cellK 0 rfl 4
                          go_wp2_with fail
                          refine (BoundR_any tA m tc p.text B k cB bs w7 (HTR.out _ M5.out.bel) hp2 (M5.out.rdO 1 rfl) (ver_bs HV.out (by rw [HLEN.out]; omega)) (by rw [HV.out.len]; exact al_fit HAL.out.2 (by rw [HQ.out.2.1]; exact hp1)) HG.out).mono ?_
                          rintro e w8 ⟨rfl, hb8⟩
                          dsimp only
                          have M6 := Lib.hid (M5.out.below hb8)
                          clear hb8 M5 y4
                          have hble : boundF p.text bs ≤ 1000000001 := Nat.min_le_right _ _
                          obtain ⟨bd, hbd⟩ : ∃ bd, boundF p.text bs = bd := ⟨_, rfl⟩
                          rw [hbd] at hble ⊢
                          have HBD := Lib.hid hbd
                          clear hbd
                          by_cases hslow : 1000000000 < bd
                          · have hslow2 : (1000000000 : Int) < (bd : Int) := by omega
                            have HO := Lib.hid (Out.slow (ps := ps) k bs p (by rw [HLEN.out]; omega) HV.out HP.out HLK.out (by rw [HBD.out]; exact hslow))
                            have bz := M6.out.cellK 1 rfl
                            have fz := M6.out.frozenK 1 rfl
                            have kz := (M6.out.ltK 1 rfl).2
                            have MS := Lib.hid ((((M6.out.upK 1 rfl).set (i := 0) (.int .i64 13)).set (i := 1) (.int .i64 k)).set (i := 2) (.int .i64 0))
                            clear M6
                            go_wp2
                            refine bodyPost_ret (v := .tuple #[.slice none 0 0, .agg #[.int .i64 13, .int .i64 k, .int .i64 0]]) ?_ rfl ?_
                            · simp [results, Tryd.results5, go_sem, bz]
                            · exact ⟨_, HO.out, OutR.nil 13 k rfl MS.out.bel⟩
                          · have hslow2 : ¬ (1000000000 : Int) < (bd : Int) := by omega
                            have HVN := Lib.hid (ver_next HV.out HP.out HLK.out (by rw [HBD.out]; omega))
                            rw [HBD.out] at HVN
                            have M7 := Lib.hid (M6.out.upO 1 rfl)
                            clear M6
                            go_wp2_with (at_builtin; refine wpList_append_rd _ rfl (.tmp 146) (.tmp 148) 25 rfl w.heap.size 3 i0 _ 1 8 Tryd.underlying25 hI0 hz0 hz1 hz2 rfl (by omega) (.slice B k cB) k (ints (natL bs)) rfl ((M7.out.rowO 0 rfl).alloc _) _ 1 1 [.int .i64 (bd : Int)] rfl (rd_new _ _ _) (by simp [Value.oneCell']) (by unfold maxLen; omega) (by omega) (Nat.le_trans M7.out.base (by simp)) ?_; intro v' wy ho hg hat; obtain ⟨B9, c9, rfl, _⟩ := own_shape ho; have M8 := Lib.hid ((M7.out.appd hg ho (by simpa using hat)).delO 1); clear ho hg hat)
                            have MF : Hid (∃ Ks, Mem w wy (⟨gb + 1, 28, #[.int .i64 0, .int .i64 0, .int .i64 0]⟩ :: ⟨gb, 24, #[.slice (some ⟨b, o, none⟩) N c]⟩ :: Ks) [⟨3, 1, B9, k + 1, c9, ints (natL (bs ++ [bd]))⟩]) := Lib.hid ⟨_, by
                              have h := M8.out.delK 0
                              rw [show ints (natL (bs ++ [bd])) = ints (natL bs) ++ [Value.int .i64 (bd : Int)] from by simp [ints, natL]]
                              exact h⟩
                            clear M8 M7
                            go_wp2
                            go_roundw
                            case rel => exact ⟨k + 1, c9, bs ++ [bd], B9, by omega, by go_num, rfl, HVN, MF⟩
                            case measure => simp [intOf]; omega
                · dsimp only
                  have M3 := Lib.hid (M2.out.below hb5)
                  clear hb5 M2 y4 x0
                  have HB2 : Hid (¬ LookOk ps k p) := Lib.hid (fun h => hno h.loops)
                  have HO := Lib.hid (Out.bad (ps := ps) k bs p (by rw [HLEN.out]; omega) HV.out HP.out HB2.out)
                  clear hno
                  go_wp2
                  go_loopw [7, 10] (fun v7 v10 wr => v7 = .bool false ∧ Hid (∃ Ks, Mem w wr (⟨g6, 43, #[.int .i64 vk, .string vname, .slice fA fn fc, .slice sA sn sc, .slice tA i tc]⟩ :: ⟨gb + 1, 28, #[.int .i64 0, .int .i64 0, .int .i64 0]⟩ :: ⟨gb, 24, #[.slice (some ⟨b, o, none⟩) N c]⟩ :: Ks) [⟨3, 1, B, k, cB, ints (natL bs)⟩])) (fun _ _ _ => 0)
                  case atStart => exact ⟨rfl, Lib.hid ⟨_, M3.out⟩⟩
                  case round =>
                    clear M3
                    obtain ⟨rfl, M3⟩ := hrel
                    obtain ⟨Ks'', M4⟩ := M3.out
                    have M4 := Lib.hid M4
                    clear M3
                    have bz := M4.out.cellK 1 rfl
                    have fz := M4.out.frozenK 1 rfl
                    have kz := (M4.out.ltK 1 rfl).2
                    have MS := Lib.hid ((((M4.out.upK 1 rfl).set (i := 0) (.int .i64 12)).set (i := 1) (.int .i64 k)).set (i := 2) (.int .i64 0))
                    clear M4
                    go_wp2
                    refine bodyPost_ret (v := .tuple #[.slice none 0 0, .agg #[.int .i64 12, .int .i64 k, .int .i64 0]]) ?_ rfl ?_
                    · simp [results, Tryd.results5, go_sem, bz]
                    · exact ⟨_, HO.out, OutR.nil 12 k rfl MS.out.bel⟩
      · obtain rfl : k = N := by omega
        have hkk : ¬ (k : Int) < (k : Int) := by omega
        have HO := Lib.hid (Out.all (ps := ps) bs (by rw [HLEN.out]; omega) (by rw [HLEN.out]; exact HV.out))
        have HBL := Lib.hid HV.out.len
        have bz := M1.out.cellK 0 rfl
        have fz := M1.out.frozenK 0 rfl
        have kz := (M1.out.ltK 0 rfl).2
        have MS := Lib.hid (((M1.out.set (i := 0) (.int .i64 0)).set (i := 1) (.int .i64 0)).set (i := 2) (.int .i64 0))
        clear M1
        go_wp2
        refine bodyPost_ret (v := .tuple #[.slice B k cB, .agg #[.int .i64 0, .int .i64 0, .int .i64 0]]) ?_ rfl ?_
        · simp [results, Tryd.results5, go_sem, bz]
        · refine ⟨_, HO.out, B, cB, ?_, ?_⟩
          · rw [HBL.out]
          · rw [HBL.out]
            exact MS.out.rows
end Go.Proofs.YtiogcbckhaknmaaDoor.Vf
