/-
  The program's look. Conditions: the code reads, within the reach; the bounds of those ahead.
-/
import Derived.Test.YtiogcbckhaknmaaDoorVfI
import Derived.Test.YtiogcbckhaknmaaDoorVp5
import Derived.Test.YtiogcbckhaknmaaDoorVf3
namespace Go.Proofs.YtiogcbckhaknmaaDoor.Vf
open Go.RowKit Go.Proofs.YtiogcbckhaknmaaDoor.W Go.Proofs.YtiogcbckhaknmaaDoor.Ints Go.Proofs.YtiogcbckhaknmaaDoor.Cod Go.Proofs.YtiogcbckhaknmaaDoor.Cell

/-- what look answers -/
def LookR (ps : List PD) (k : Nat) (p : PD) (bs : List Nat) (e : Ending) : Prop :=
  (LookOk ps k p ∧ boundF p.text bs ≤ 1000000000 ∧ e = .returned (.tuple #[.int .i64 (boundF p.text bs : Nat), .int .i64 0])) ∨
  (LookOk ps k p ∧ 1000000000 < boundF p.text bs ∧ e = .returned (.tuple #[.int .i64 0, .int .i64 13])) ∨
  (¬ LookOk ps k p ∧ e = .returned (.tuple #[.int .i64 0, .int .i64 12]))
set_option maxRecDepth 100000 in
set_option maxHeartbeats 25600000 in
theorem look_any (A : Option Addr) (N c : Nat) (vs : List PV) (ps : List PD) (k : Nat) (p : PD) (B : Option Addr) (d : Nat) (bs : List Nat) (m : Int) (w : World) (hC : CRd w A N vs ps) (hok : ∀ p ∈ ps, p.ok) (hN : N * 96 ≤ 140737488351232) (hp : ps[k]? = some p) (hB : Rd w 1 B k (ints (natL bs))) (hV : VerR ps k bs) (hm : w.cell? ⟨0, 0, none⟩ = some (.int .i64 m)) :
    Calls Tryd.prog 20 #[.slice A N c, .int .i64 k, .slice B k d] w fun e w' => LookR ps k p bs e ∧ Below w.heap.size w w' := by
  have hkl : k < ps.length := (List.getElem?_eq_some_iff.1 hp).1
  have hlt : k < N := by rw [← hC.len]; exact hkl
  have HM : Hid (∀ w', Below w.heap.size w w' → w'.cell? ⟨0, 0, none⟩ = some (.int .i64 m)) := Lib.hid fun w' h => (h.cell (lt_of_cell hm)).trans hm
  obtain ⟨b, o, v, p', rfl, hv, hp', hr, hbl, c0, c1, c2, c3, c4⟩ := hC.at hlt
  rw [hp] at hp'
  obtain rfl := Option.some.inj hp'
  have HPV := Lib.hid (hC.each k v p hv hp)
  have hpk := hok p (List.mem_of_getElem? hp)
  have HBS := Lib.hid (ver_bs hV (Nat.le_of_lt hkl))
  have HV := Lib.hid hV
  have HC := Lib.hid hC
  have HOK := Lib.hid hok
  have HP := Lib.hid hp
  have HB := Lib.hid hB
  have q0 := hr.kind
  have q1 := hr.fl
  have q3 := hr.tl
  obtain ⟨vk, vname, fA, fn, fc, sA, sn, sc, tA, tn, tc⟩ := v
  dsimp only at q0 q1 q3 c0 c1 c2 c3 c4
  have hf8 : fn * 8 ≤ 140737488351232 := by rw [← q1]; exact hpk.2.2.2.2.2.1
  have ht8 : tn * 32 ≤ 140737488351232 := by rw [← q3]; exact hpk.2.2.2.2.2.2.2
  have HQ := Lib.hid (And.intro q0 (And.intro q1 q3))
  have hk0 : (0 : Int) ≤ (k : Int) := by omega
  have hkn : (k : Int) < (N : Int) := by omega
  have M2 := Lib.hid ((Mem.start w).alloc 43 #[.int .i64 vk, .string vname, .slice fA fn fc, .slice sA sn sc, .slice tA tn tc])
  have HM0 := Lib.hid hm
  clear hv hp hr hpk q0 q1 q3 hV hC hok hm hB hp'
  go_enter Tryd.func20, Tryd.ntmps20
  go_upto_region 2 with fail
  clear c0 c1 c2 c3 c4 hbl
  generalize World.alloc _ _ = w2 at M2 ⊢
  generalize w.heap.size = g6 at M2 ⊢
  have y0 : w2.cell? ⟨g6, 0, none⟩ = some (.int .i64 vk) := M2.out.cellK 0 rfl 0
  have y2 : w2.cell? ⟨g6, 2, none⟩ = some (.slice fA fn fc) := M2.out.cellK 0 rfl 2
  have y4 : w2.cell? ⟨g6, 4, none⟩ = some (.slice tA tn tc) := M2.out.cellK 0 rfl 4
  have HH : Hid (headB p = ((vk == 1 || (vk == 2 || vk == 3)) && (decide (fn ≤ 20000) && decide (tn ≤ 100000)))) := Lib.hid (by
    unfold headB
    rw [HQ.out.1, HQ.out.2.1, HQ.out.2.2])
  have BF := Lib.hid M2.out.bel
  have HBAD : Hid (headB p = false → ¬ LookOk ps k p) := Lib.hid (fun h h2 => by
    have := h2.head
    rw [h] at this
    cases this)
  by_cases h1 : vk < 1
  · have hbad := Lib.hid (HBAD.out (by rw [HH.out, show (vk == 1) = false by simp; omega, show (vk == 2) = false by simp; omega, show (vk == 3) = false by simp; omega]; rfl))
    go_wp2
    go_ret2
    exact ⟨.inr (.inr ⟨hbad.out, rfl⟩), BF.out⟩
  by_cases h2 : 3 < vk
  · have hbad := Lib.hid (HBAD.out (by rw [HH.out, show (vk == 1) = false by simp; omega, show (vk == 2) = false by simp; omega, show (vk == 3) = false by simp; omega]; rfl))
    go_wp2
    go_ret2
    exact ⟨.inr (.inr ⟨hbad.out, rfl⟩), BF.out⟩
  by_cases h3 : 20000 < fn
  · have hbad := Lib.hid (HBAD.out (by rw [HH.out, show decide (fn ≤ 20000) = false by simp; omega]; simp))
    have h3i : (20000 : Int) < (fn : Int) := by omega
    go_wp2
    go_ret2
    exact ⟨.inr (.inr ⟨hbad.out, rfl⟩), BF.out⟩
  by_cases h4 : 100000 < tn
  · have hbad := Lib.hid (HBAD.out (by rw [HH.out, show decide (tn ≤ 100000) = false by simp; omega]; simp))
    have h3i : ¬ (20000 : Int) < (fn : Int) := by omega
    have h4i : (100000 : Int) < (tn : Int) := by omega
    go_wp2
    go_ret2
    exact ⟨.inr (.inr ⟨hbad.out, rfl⟩), BF.out⟩
  have h3i : ¬ (20000 : Int) < (fn : Int) := by omega
  have h4i : ¬ (100000 : Int) < (tn : Int) := by omega
  have HHD : Hid (headB p = true) := Lib.hid (by
    rw [HH.out]
    have : vk = 1 ∨ vk = 2 ∨ vk = 3 := by omega
    simp only [Bool.and_eq_true, Bool.or_eq_true, beq_iff_eq, decide_eq_true_eq]
    omega)
  have MQ : Hid (∃ Ks, Mem w w2 (⟨g6, 43, #[.int .i64 vk, .string vname, .slice fA fn fc, .slice sA sn sc, .slice tA tn tc]⟩ :: Ks) []) := Lib.hid ⟨_, M2.out⟩
  have HTR : Hid (∀ w', Below w.heap.size w w' → Rd w' 4 tA tn (textV p.text)) := Lib.hid fun w' h => HPV.out.text.below h
  clear M2 BF
  go_wp2
  clear y0 y2 y4 h1 h2 h3i h4i
  go_loopw [41] (fun v41 wr => ∃ i : Nat, i ≤ tn ∧ v41 = .int .i64 i ∧ Hid (AlTo ps k p i) ∧ Hid (∃ Ks, Mem w wr (⟨g6, 43, #[.int .i64 vk, .string vname, .slice fA fn fc, .slice sA sn sc, .slice tA tn tc]⟩ :: Ks) [])) (fun v41 _ => tn - (intOf v41).toNat)
  case atStart => exact ⟨0, Nat.zero_le _, rfl, Lib.hid (fun i x hi => by omega), MQ⟩
  case round =>
    clear MQ
    obtain ⟨i, hi, rfl, HA, MQ⟩ := hrel
    obtain ⟨Ks, M3⟩ := MQ.out
    have M3 := Lib.hid M3
    clear MQ
    by_cases hit : i < tn
    · obtain ⟨b5, o5, x, rfl, hx, _, d0, d1, d2, d3⟩ := instr_at (HTR.out _ M3.out.bel) hit
      have HX := Lib.hid hx
      have HXO : Hid x.ok := Lib.hid ((HOK.out p (List.mem_of_getElem? HP.out)).2.2.2.2.1 x (List.mem_of_getElem? hx))
      have hi0 : (0 : Int) ≤ (i : Int) := by omega
      have hin : (i : Int) < (tn : Int) := by omega
      have M4 := Lib.hid (M3.out.alloc 50 #[.int .i64 x.op, .int .i64 x.a, .int .i64 x.b, .int .i64 x.c])
      clear hx
      go_upto_region 7 with fail
      clear d0 d1 d2 d3 M3
      generalize World.alloc _ _ = w3 at M4 ⊢
      generalize wr.heap.size = g7 at M4 ⊢
      have x0 : w3.cell? ⟨g7, 0, none⟩ = some (.int .i64 x.op) := M4.out.cellK 0 rfl 0
      have x1 : w3.cell? ⟨g7, 1, none⟩ = some (.int .i64 x.a) := M4.out.cellK 0 rfl 1
      have x2 : w3.cell? ⟨g7, 2, none⟩ = some (.int .i64 x.b) := M4.out.cellK 0 rfl 2
      have x3 : w3.cell? ⟨g7, 3, none⟩ = some (.int .i64 x.c) := M4.out.cellK 0 rfl 3
      go_wp2_with fail
      refine (alone_any (some ⟨b, o, none⟩) N c vs ps k i x p m w3 (HC.out.below M4.out.bel) HOK.out hN HP.out HXO.out (HM.out _ M4.out.bel)).mono ?_
      rintro e w5 ⟨rfl, hb5⟩
      dsimp only
      clear x0 x1 x2 x3
      have M5 : Hid (∃ Ks, Mem w w5 (⟨g6, 43, #[.int .i64 vk, .string vname, .slice fA fn fc, .slice sA sn sc, .slice (some ⟨b5, o5, none⟩) tn tc]⟩ :: Ks) []) := Lib.hid ⟨_, (M4.out.below hb5).delK 0⟩
      clear hb5 M4
      obtain ⟨ab, hab⟩ : ∃ ab, aloneB ps k i p.first.length p.text.length x = ab := ⟨_, rfl⟩
      rw [hab]
      have HAB := Lib.hid hab
      clear hab
      cases ab with
      | false =>
        have hbad : Hid (¬ LookOk ps k p) := Lib.hid (fun h => by
          have := h.alone i x (by rw [HQ.out.2.2]; exact hit) HX.out
          rw [HAB.out] at this
          cases this)
        have BF : Hid (Below w.heap.size w w5) := Lib.hid (by obtain ⟨_, M⟩ := M5.out; exact M.bel)
        go_wp2
        go_ret2
        exact ⟨.inr (.inr ⟨hbad.out, rfl⟩), BF.out⟩
      | true =>
        have HN : Hid (AlTo ps k p (i + 1)) := Lib.hid (fun i' x' hi' hx' => by
          by_cases e : i' < i
          · exact HA.out i' x' e hx'
          · obtain rfl : i' = i := by omega
            rw [HX.out] at hx'
            obtain rfl := Option.some.inj hx'
            exact HAB.out)
        go_wp2
        go_roundw
        case rel => exact ⟨i + 1, by omega, by go_num, HN, M5⟩
        case measure => simp [intOf]; omega
    · obtain rfl : i = tn := by omega
      have hii : ¬ (i : Int) < (i : Int) := by omega
      have HAL : Hid (AlTo ps k p p.text.length) := Lib.hid (by rw [HQ.out.2.2]; exact HA.out)
      have HTS := Lib.hid (al_ts HAL.out)
      have HTB : Hid (∀ (i : Nat) (x : IN), p.text[i]? = some x → x.op = 14 → 1 ≤ x.b ∧ x.b ≤ i) := Lib.hid (fun i x hx ho => (HTS.out i x hx).2 ho)
      have htn : i ≤ 100000 := by omega
      have y4 : wr.cell? ⟨g6, 4, none⟩ = some (.slice tA i tc) := M3.out.cellK 0 rfl 4
      have HTE : Hid (p.text.length = i) := Lib.hid HQ.out.2.2
      go_wp2_with fail
      refine (regions_any tA i tc p.text wr (HTR.out _ M3.out.bel) htn HTB.out).mono ?_
      rintro e w5 (⟨hgood, L5, c5, rfl, hm⟩ | ⟨hno, rfl, hb5⟩)
      · dsimp only
        have HG := Lib.hid hgood
        have M4 : Hid (∃ Ks, Mem w w5 (⟨g6, 43, #[.int .i64 vk, .string vname, .slice fA fn fc, .slice sA sn sc, .slice tA i tc]⟩ :: Ks) [⟨84, 4, L5, (loopsTo p.text i).length, c5, loopsV (loopsTo p.text i)⟩]) := Lib.hid ⟨_, M3.out.join hm.rows⟩
        clear hm hgood y4
        obtain ⟨Ks4, M5⟩ := M4.out
        have M5 := Lib.hid M5
        have y4 : w5.cell? ⟨g6, 4, none⟩ = some (.slice tA i tc) := M5.out.cellK 0 rfl 4
        have HLO : Hid (LoopsOk p.text) := Lib.hid HG.out.1
        have HJP : Hid (JumpsOk p.text (loopsTo p.text p.text.length) p.text.length) := Lib.hid (by rw [HTE.out]; exact HG.out.2)
        have HLR := Lib.hid (M5.out.rdO 0 rfl)
        clear M4
        go_wp2_with fail
        refine (levels_any tA i tc p.text w5 (HTR.out _ M5.out.bel) htn HTS.out (fun i x hi hx ho => round_bad HLO.out i x hi hx ho) HJP.out).mono ?_
        rintro e w6 ⟨rfl, hb6⟩
        dsimp only
        have B56 := Lib.hid hb6
        have M6 := Lib.hid (M5.out.below hb6)
        clear hb6 M5 y4
        obtain ⟨lv, hlv⟩ : ∃ lv, levF p.text = lv := ⟨_, rfl⟩
        rw [hlv]
        have HLV := Lib.hid hlv
        clear hlv
        cases lv with
        | false =>
          have hbad : Hid (¬ LookOk ps k p) := Lib.hid (fun h => by
            have := h.levels
            rw [HLV.out] at this
            cases this)
          have BF := Lib.hid M6.out.bel
          go_wp2
          go_ret2
          exact ⟨.inr (.inr ⟨hbad.out, rfl⟩), BF.out⟩
        | true =>
          have HGOOD : Hid (LookOk ps k p) := Lib.hid ⟨HHD.out, HAL.out, HLO.out, HJP.out, HLV.out⟩
          have y4 : w6.cell? ⟨g6, 4, none⟩ = some (.slice tA i tc) := M6.out.cellK 0 rfl 4
          have HBL : Hid (bs.length = k) := Lib.hid HV.out.len
          have HFT : Hid (FitOk p.text bs.length) := Lib.hid (by rw [HBL.out]; exact al_fit HAL.out (head_parts HHD.out).1)
          go_wp2_with fail
          refine (bound_any tA i tc p.text L5 (loopsTo p.text i).length c5 B k d bs w6 (HTR.out _ M6.out.bel) htn HLO.out (M6.out.rdO 0 rfl) (HB.out.below M6.out.bel) HBS.out HFT.out).mono ?_
          rintro e w7 ⟨rfl, hb7⟩
          dsimp only
          have BF := Lib.hid (M6.out.below hb7).bel
          clear hb7 y4 M6
          obtain ⟨R, hR⟩ : ∃ R, boundF p.text bs = R := ⟨_, rfl⟩
          rw [hR]
          have HR := Lib.hid hR
          have hRb : R ≤ 1000000001 := by rw [← hR]; exact Nat.min_le_right _ _
          clear hR
          by_cases hs : R ≤ 1000000000
          · have hs2 : ¬ (1000000000 : Int) < (R : Int) := by omega
            have hs3 := Lib.hid hs
            go_wp2
            go_ret2
            exact ⟨.inl ⟨HGOOD.out, by rw [HR.out]; exact hs3.out, by rw [HR.out]; rfl⟩, BF.out⟩
          · have hs2 : (1000000000 : Int) < (R : Int) := by omega
            have hs3 := Lib.hid hs
            go_wp2
            go_ret2
            exact ⟨.inr (.inl ⟨HGOOD.out, by rw [HR.out]; have := hs3.out; omega, rfl⟩), BF.out⟩
      · dsimp only
        have hbad : Hid (¬ LookOk ps k p) := Lib.hid (fun h => hno ⟨h.loops, by have := h.jumps; rw [HTE.out] at this; exact this⟩)
        have BF := Lib.hid (M3.out.below hb5).bel
        clear hno hb5 M3 y4
        go_wp2
        go_ret2
        exact ⟨.inr (.inr ⟨hbad.out, rfl⟩), BF.out⟩
end Go.Proofs.YtiogcbckhaknmaaDoor.Vf
