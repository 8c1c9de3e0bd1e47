/-
  A stretch of the board's time, at once. Conditions: the board may stand so.
-/
import Derived.Test.YthnpeekeoaiaoaaPlyB
import Derived.RegionTactic
import Derived.BigRegion
import Derived.Deep.DeepCutAuto
import Derived.Deep.RegionLaw
import Derived.Deep.QuietTactic
import Derived.BigQuiet
import Derived.IntWalk
namespace Go.Proofs.Ythnpeekeoaiaoaa.Task
open Go.RowKit Go.Proofs.Ythnpeekeoaiaoaa.W Go.Proofs.Ythnpeekeoaiaoaa.Ints

/-- what is known of the board on the way -/
def OnWay (ts : List TD) (T : Nat) (s s1 : BS) : Prop := ∀ R, s = stdB ts R s.now → s.now ≤ T → (∀ i, i < ts.length → ∀ m : Nat, s.now ≤ m → m < T → relF ts i m = R.getD i 0) → s1 = stdB ts R s1.now
theorem lsB_done {ts : List TD} {s : BS} {k E : Nat} {c j : Int} {ℓ : Int} (h : ℓ - ((E : Int) - s.now) = 0) : (stepB ts s k ⟨c, j, ℓ⟩ E).ls = s.ls.set k ⟨c - 1, j + 1, costF ts k⟩ := by
  show s.ls.set k (if ℓ - ((E : Int) - s.now) = 0 then _ else _) = _
  rw [if_pos h]
theorem lsB_run {ts : List TD} {s : BS} {k E : Nat} {c j : Int} {ℓ : Int} (h : ¬ ℓ - ((E : Int) - s.now) = 0) : (stepB ts s k ⟨c, j, ℓ⟩ E).ls = s.ls.set k ⟨c, j, ℓ - ((E : Int) - s.now)⟩ := by
  show s.ls.set k (if ℓ - ((E : Int) - s.now) = 0 then _ else _) = _
  rw [if_neg h]

set_option maxRecDepth 100000 in
set_option maxHeartbeats 6400000 in
theorem run_any (w0 w : World) (Ks : List Box) (Os : List Row) (g gl : Nat) (C O : Option Addr) (n cL cC cO T b : Nat) (ts : List TD) (s : BS) (ha : ts.all TD.okB = true) (hn : ts.length = n) (hn0 : 0 < n) (hn1 : n ≤ 16)
    (hN : s.now ≤ 20000) (hT : T ≤ 20000) (hb : b ≤ 10000000000) (hok : s.ok ts b)
    (h : Mem w0 w (⟨g, 54, boardV s.now (some ⟨gl, 0, none⟩) C O n cL cC s.q.length cO⟩ :: Ks) (rowsB ts s (some ⟨gl, 0, none⟩) C O n cL cC cO ++ Os)) :
    Calls Try.prog 26 #[.pointer (some ⟨g, 0, none⟩), .int .i64 T] w fun e w' => e = .returned (.tuple #[]) ∧ Kp g gl w w' ∧ ∃ s' O' cO', s'.now = T ∧ s'.ok ts (b + 20000) ∧ (s.now ≤ T → OnWay ts T s s') ∧
      Mem w0 w' (⟨g, 54, boardV T (some ⟨gl, 0, none⟩) C O' n cL cC s'.q.length cO'⟩ :: Ks) (rowsB ts s' (some ⟨gl, 0, none⟩) C O' n cL cC cO' ++ Os) := by
  obtain ⟨i0, hi0, hy0, hy1, hy2⟩ := info_parts sd_infoP
  have HM0 := Lib.hid h
  have HA := Lib.hid ha
  have HL := Lib.hid hn
  have HOK0 := Lib.hid hok
  have HW0 : Hid (OnWay ts T s s) := fun R h _ _ => h
  clear h ha hn hok
  go_enter Try.func26, Try.ntmps26
  go_wp2
  go_loopw [4] (fun _ wr => ∃ s1 : BS, s.now ≤ s1.now ∧ (s1.now ≤ T ∨ s1 = s) ∧ Hid (s1.ok ts (b + (s1.now - s.now))) ∧ Hid (OnWay ts T s s1) ∧ ∃ O' cO', Hid (Kp g gl w wr) ∧ Hid (Mem w0 wr (⟨g, 54, boardV s1.now (some ⟨gl, 0, none⟩) C O' n cL cC s1.q.length cO'⟩ :: Ks) (rowsB ts s1 (some ⟨gl, 0, none⟩) C O' n cL cC cO' ++ Os))) (fun _ wr => T - nowAt g wr)
  case atStart => exact ⟨s, Nat.le_refl _, .inr rfl, by rw [Nat.sub_self]; exact HOK0, HW0, O, cO, Kp.refl _ _ _, HM0⟩
  case round =>
    clear HM0 O cO HOK0 HW0
    obtain ⟨s1, he1, he2, HOK, HW, O, cO, HK, HM⟩ := hrel
    have cb := HM.out.cellK 0 rfl
    have fb := HM.out.frozenK 0 rfl
    unfold boardV at cb
    have hnow : s1.now ≤ 20000 := by
      rcases he2 with h | h
      · omega
      · rw [h]; exact hN
    have HE2 := Lib.hid he2
    clear he2
    by_cases hlt : s1.now < T
    · go_wp2_with fail
      refine (first_any g _ n cL s1.ls _ (cb 1) (HM.out.rdO 0 rfl) (by omega)).mono ?_
      rintro e2 w1 ⟨rfl, hb1⟩
      have M1 := Lib.hid (HM.out.below hb1)
      have K1 := Lib.hid (HK.out.trans (Kp.below hb1))
      have HNOW : Hid (nowAt g wr = s1.now) := by
        have h := cb 0
        simp at h
        simp [Hid, nowAt, h]
      clear cb fb HM HK hb1
      have cb := M1.out.cellK 0 rfl
      have fb := M1.out.frozenK 0 rfl
      unfold boardV at cb
      have hfc := fst_cases s1.ls
      generalize hfv : fstAt s1.ls = fv at *
      have HFV := Lib.hid hfv
      clear hfv
      rcases hfc with ⟨rfl, hall⟩ | ⟨k, l, rfl, hlk, hrdy⟩
      · have HI : Hid (OnWay ts T s ⟨T, s1.ls, s1.q⟩) := fun R h1 h2 h3 => by
          have hs := HW.out R h1 h2 h3
          have hi := idle_std HA.out (R := R) hlt (fun i hi m m1 m2 => h3 i hi m (by omega) m2) (by rw [← hs]; exact HFV.out)
          rw [← hs] at hi
          exact hi
        have M2 := Lib.hid (M1.out.set (i := 0) (.int .i64 T))
        have K2 := Lib.hid (K1.out.trans (Kp.set w1 (p := ⟨g, 0, none⟩) (.inl rfl) (.int .i64 T)))
        have HO2 : Hid (BS.ok ts (b + 20000) ⟨T, s1.ls, s1.q⟩) := HOK.out.more (by omega)
        clear hall M1 K1
        go_wp2
        go_end0
        exact ⟨rfl, K2.out, ⟨T, s1.ls, s1.q⟩, O, cO, rfl, HO2.out, fun _ => HI.out, M2.out⟩
      · have hkl := (List.getElem?_eq_some_iff.1 hlk).1
        have hkn' : k < n := by rw [← HL.out, ← HOK.out.1]; exact hkl
        have hb3 := HOK.out.2.2 k l hlk
        have hb2 := HOK.out.2.1
        obtain ⟨c1, c2, _⟩ := cost_pos HA.out k
        have hld : ∀ i u, l.cs[i]? = some u → i < 3 → w1.cell? ⟨gl, k * 3 + i, none⟩ = some u := by
          intro i u hu hi
          rw [(M1.out.rowO 0 rfl).cellAt (k * 3 + i) (by omega), flat_at LD.len _ k i _ hlk hi, hu]
        have l0 := hld 0 _ rfl (by omega)
        have l1 := hld 1 _ rfl (by omega)
        have l2 := hld 2 _ rfl (by omega)
        rw [Nat.add_zero] at l0
        have hfl := (M1.out.rowO 0 rfl).frozenAt
        have HLK := Lib.hid hlk
        have HKL := Lib.hid hkl
        have HCT : Hid (1 ≤ costF ts k ∧ costF ts k ≤ 1000000) := ⟨c1, c2⟩
        obtain ⟨ct, jb, lf⟩ := l
        simp only at hb3 l0 l1 l2 hrdy
        obtain ⟨ℓ, rfl⟩ := Int.eq_ofNat_of_zero_le (show 0 ≤ lf by omega)
        have b1 : 1 ≤ ct := by omega
        have b2 : ct ≤ 10000020000 := by omega
        have b3 : 0 ≤ jb := by omega
        have b4 : jb ≤ 10000020000 := by omega
        have b5 : 1 ≤ ℓ := by omega
        have b6 : ℓ ≤ 1000000 := by omega
        have b7 : s1.q.length ≤ 10000020000 := by omega
        have hk0 : (0 : Int) ≤ (k : Int) := by omega
        have hkn : (k : Int) < (n : Int) := by omega
        clear hb3 hb2 c1 c2 hld hlk hkl hrdy
        generalize hee : s1.now = e at *
        have HEE := Lib.hid hee
        clear hee
        go_upto_region 4 with fail
        go_region
        go_upto_region 6 with fail
        obtain ⟨E, hE⟩ : ∃ E : Nat, (if (e : Int) + (ℓ : Int) < (T : Int) then (e : Int) + (ℓ : Int) else (T : Int)) = (E : Int) := by
          by_cases h : (e : Int) + (ℓ : Int) < (T : Int)
          · exact ⟨e + ℓ, by rw [if_pos h]; simp⟩
          · exact ⟨T, by rw [if_neg h]⟩
        have hE1 : e < E ∧ E ≤ T ∧ E ≤ e + ℓ ∧ (E = e + ℓ ∨ E < e + ℓ) := by
          split at hE <;> omega
        obtain ⟨hE1, hE2, hE3, _⟩ := hE1
        rw [hE]
        clear hE
        have M2 := Lib.hid M1.out.drew
        have K2 : Hid (Kp g gl w w1.drew) := K1.out.trans (Kp.below (below_drewN (Below.refl _ w1) 1))
        have L0 : Hid (w1.drew.cell? ⟨gl, k * 3, none⟩ = some (.int .i64 ct)) := l0
        have L1 : Hid (w1.drew.cell? ⟨gl, k * 3 + 1, none⟩ = some (.int .i64 jb)) := l1
        have L2 : Hid (w1.drew.cell? ⟨gl, k * 3 + 2, none⟩ = some (.int .i64 ℓ)) := l2
        clear l0 l1 l2 cb fb hfl M1 K1
        generalize w1.drew = w2 at *
        simp only [rowsB, List.cons_append, List.nil_append, boardV] at M2
        generalize hQ : s1.q = Q at M2 b7 ⊢
        have HQ := Lib.hid hQ
        generalize hls : s1.ls = ls at M2 HLK HKL
        have HLS := Lib.hid hls
        generalize hQL : Q.length = L at M2 b7 ⊢
        have HQL := Lib.hid hQL
        clear hQL hls hQ
        generalize hmB : lastB Q k jb e = mB
        have HMB := Lib.hid hmB
        clear hmB
        go_cut [86] (fun bv wx => bv = .bool mB ∧ ∃ q, wx = w2.drewN q)
        case first =>
          have cb := M2.out.cellK 0 rfl
          have l1 := L1.out
          have hmb := HMB.out
          rcases snoc_cases Q with rfl | ⟨P, s, rfl⟩
          · obtain rfl : L = 0 := by have := HQL.out; simp at this; omega
            rw [last_nil] at hmb
            subst hmb
            clear HMB
            go_quiet (fail)
            go_wp2
            go_meet
            exact ⟨rfl, _, rfl⟩
          · obtain ⟨m, hPm⟩ : ∃ m, P.length = m := ⟨_, rfl⟩
            obtain rfl : L = m + 1 := by have := HQL.out; simp at this; omega
            obtain ⟨go, rfl, hg1, hg2⟩ := (M2.out.upO 2 rfl).head (by omega)
            have hsd : ∀ i u, s.cs[i]? = some u → i < 4 → w2.cell? ⟨go, m * 4 + i, none⟩ = some u := by
              intro i u hu hi
              rw [(M2.out.rowO 2 rfl).cellAt (m * 4 + i) (by omega), flat_at SD.len (P ++ [s]) m i s (by rw [← hPm]; simp) hi, hu]
            have s0 := hsd 0 _ rfl (by omega)
            have s1 := hsd 1 _ rfl (by omega)
            have s3 := hsd 3 _ rfl (by omega)
            rw [Nat.add_zero] at s0
            have hm0' : (0 : Int) ≤ (m : Int) := by omega
            have hm1' : (m : Int) < ((m + 1 : Nat) : Int) := by omega
            have hm2' : ((m + 1 : Nat) : Int) - 1 = (m : Int) := by omega
            have hm3' : IntKind.i64.wrap (((m + 1 : Nat) : Int) - 1) = (m : Int) := by rw [hm2']; exact IntWalk.i64_in _ (by omega)
            have hm4' : decide ((0 : Int) < ((m + 1 : Nat) : Int)) = true := by simp <;> omega
            have hm5' : ((m + 1 : Nat) : Int) = (m : Int) + 1 := by omega
            rw [last_snoc] at hmb
            clear hsd hPm HMB
            by_cases e1 : (s.til == (e : Int)) = true
            · by_cases e2 : (s.task == (k : Int)) = true
              · rw [e1, e2] at hmb
                simp only [Bool.true_and] at hmb
                cases e3 : (s.job == jb)
                all_goals rw [e3] at hmb
                all_goals subst hmb
                all_goals go_quiet (fail)
                all_goals go_wp2
                all_goals go_meet
                all_goals exact ⟨rfl, _, rfl⟩
              · rw [Bool.not_eq_true] at e2
                rw [e1, e2] at hmb
                simp only [Bool.and_false, Bool.false_and] at hmb
                subst hmb
                go_quiet (fail)
                go_wp2
                go_meet
                exact ⟨rfl, _, rfl⟩
            · rw [Bool.not_eq_true] at e1
              rw [e1] at hmb
              simp only [Bool.false_and] at hmb
              subst hmb
              go_quiet (fail)
              go_wp2
              go_meet
              exact ⟨rfl, _, rfl⟩
        case rest =>
          obtain ⟨rfl, q, rfl⟩ := hcut
          have M3 := Lib.hid (M2.out.drewN q)
          have K3 : Hid (Kp g gl w (w2.drewN q)) := K2.out.trans (Kp.below (below_drewN (Below.refl _ w2) q))
          have L1' : Hid ((w2.drewN q).cell? ⟨gl, k * 3 + 1, none⟩ = some (.int .i64 jb)) := L1.out
          have hnx : Hid ((ldV ls)[k * 3]? = some (.int .i64 ct) ∧ (ldV ls)[k * 3 + 1]? = some (.int .i64 jb) ∧ (ldV ls)[k * 3 + 2]? = some (.int .i64 ℓ)) := by
            have h : ∀ i, i < 3 → (ldV ls)[k * 3 + i]? = w2.cell? ⟨gl, k * 3 + i, none⟩ := fun i hi => ((M2.out.rowO 0 rfl).cellAt (k * 3 + i) (by omega)).symm
            exact ⟨(h 0 (by omega)).trans L0.out, (h 1 (by omega)).trans L1.out, (h 2 (by omega)).trans L2.out⟩
          clear M2 K2 L0 L1 L2
          generalize w2.drewN q = w3 at *
          go_upto_if 86 with fail
          go_cut [7] (fun _ wx => ∃ O' L' cO', (addS Q k jb e E).length = L' ∧ Hid (Kp g gl w wx) ∧ Hid (Mem w0 wx (⟨g, 54, #[.int .i64 e, .slice (some ⟨gl, 0, none⟩) n cL, .slice C n cC, .slice O' L' cO']⟩ :: Ks) (⟨36, 4, O', L', cO', sdV (addS Q k jb e E)⟩ :: ⟨56, 3, some ⟨gl, 0, none⟩, n, cL, ldV ls⟩ :: ⟨3, 1, C, n, cC, ints (ts.map TD.cost)⟩ :: Os)))
          case first =>
            cases hmb : mB
            · rw [hmb] at HMB
              clear hmb
              have cb := M3.out.cellK 0 rfl
              have fb := M3.out.frozenK 0 rfl
              have l1 := L1'.out
              have HADD : Hid (addS Q k jb e E = Q ++ [⟨k, jb, e, E⟩]) := last_no _ HMB.out
              have hgo := M3.out.rowO 2 rfl
              have hgne : (Value.slice O L cO).ownBlock ≠ some g := fun e => by
                cases O with
                | none => simp [Value.ownBlock] at e
                | some a =>
                  simp [Value.ownBlock] at e
                  exact M3.out.dis ⟨g, _, _⟩ (List.mem_cons_self ..) ⟨36, 4, some a, L, cO, sdV Q⟩ (by simp) a rfl e
              have z3 := M3.out.base
              have zg := (M3.out.ltK 0 rfl).2
              have zgl := lt_of_cell l1
              have d0 : w3.cell? ⟨g, 0, none⟩ = some (.int .i64 e) := cb 0
              have d3 : w3.cell? ⟨g, 3, none⟩ = some (.slice O L cO) := cb 3
              have HOWN := Lib.hid hgo
              clear hgo cb
              go_upto_region 8 with fail
              go_region_law ((refine step_append_sl _ (by rfl) _ _ _ (by rfl) w0.heap.size 36 i0 _ 4 32 Try.underlying31 hi0 hy0 hy1 hy2 rfl (by omega) (.slice O L cO) L (sdV Q) (by rfl) ((HOWN.out.alloc _).drew) (some ⟨w3.heap.size, 0, none⟩) 1 1 [.int .i64 k, .int .i64 jb, .int .i64 e, .int .i64 E] (by rfl) (Rd.drew (rd_newR w3 36 #[.int .i64 k, .int .i64 jb, .int .i64 e, .int .i64 E])) (by simp [Value.oneCell']) (by unfold maxLen; omega) (by omega) (by simp; omega) (L + 1) rfl ?_; intro A1 c1 w4 ho4 hg4 hat4; have q3 := (cell_grown hg4 (b := g) 3 (by simp; omega) hgne).trans ((World.cell?_alloc_lt w3 _ ⟨g, 3, none⟩ zg).trans d3); have q4 : w4.frozen? ⟨g, 3, none⟩ = false := (World.frozen?_of_block (a := ⟨g, 3, none⟩) (hg4.block g (by simp; omega) (fun e => hgne e.symm))).trans ((World.frozen?_of_block (w := w3) (a := ⟨g, 3, none⟩) ((below_alloc _).block g zg)).trans (fb 3))))
              all_goals go_wp2
              all_goals go_meet
              all_goals refine ⟨A1, L + 1, c1, by rw [HADD.out]; simp [HQL.out], ?_, ?_⟩
              all_goals first
                | exact (K3.out.trans ((Kp.below ((below_alloc (w := w3) (.cells #[.int .i64 k, .int .i64 jb, .int .i64 e, .int .i64 E] 36)).drew)).trans (Kp.grow ((HOWN.out.alloc _).drew) hg4))).trans (Kp.set w4 (p := ⟨g, 3, none⟩) (.inl rfl) _)
                | (have e4 : sdV Q ++ [.int .i64 k, .int .i64 jb, .int .i64 e, .int .i64 E] = sdV (addS Q k jb e E) := by rw [HADD.out]; simp [sdV, SD.cs]
                   rw [e4] at ho4
                   have hg5 : (w3.alloc (.cells #[.int .i64 k, .int .i64 jb, .int .i64 e, .int .i64 E] 36)).grownBy w4 (Value.slice O L cO).ownBlock := ⟨hg4.os, hg4.tape, hg4.output, hg4.size, hg4.block⟩
                   exact ((M3.out.upO 2 rfl).appd hg5 ho4 (by simpa using hat4)).set (i := 3) (.slice A1 (L + 1) c1))
            · rw [hmb] at HMB
              clear hmb
              obtain ⟨P, f, rfl⟩ := last_yes HMB.out
              obtain ⟨m, hPm⟩ : ∃ m, P.length = m := ⟨_, rfl⟩
              obtain rfl : L = m + 1 := by have := HQL.out; simp at this; omega
              obtain ⟨go, rfl, hg1, hg2⟩ := (M3.out.upO 2 rfl).head (by omega)
              have cb := M3.out.cellK 0 rfl
              have fb := M3.out.frozenK 0 rfl
              have hm0' : (0 : Int) ≤ (m : Int) := by omega
              have hm1' : (m : Int) < ((m + 1 : Nat) : Int) := by omega
              have hm2' : ((m + 1 : Nat) : Int) - 1 = (m : Int) := by omega
              have hsc : w3.cell? ⟨go, m * 4 + 3, none⟩ = some (.int .i64 e) := by
                rw [(M3.out.rowO 2 rfl).cellAt (m * 4 + 3) (by omega)]
                exact (flat_at SD.len (P ++ [⟨k, jb, f, e⟩]) m 3 ⟨k, jb, f, e⟩ (by rw [← hPm]; simp) (by omega)).trans rfl
              have hsf := (M3.out.rowO 2 rfl).frozenAt (m * 4 + 3)
              have HADD : Hid (addS (P ++ [⟨k, jb, f, e⟩]) k jb e E = P ++ [⟨k, jb, f, E⟩]) := add_yes ..
              have HPM := Lib.hid hPm
              clear hm1' hPm
              have hm1' : (m : Int) < ((m + 1 : Nat) : Int) := by omega
              go_wp2
              go_meet
              refine ⟨some ⟨go, 0, none⟩, m + 1, cO, by rw [HADD.out]; simp [HPM.out], ?_, ?_⟩
              · exact K3.out.trans (Kp.grow (M3.out.rowO 2 rfl) ((M3.out.rowO 2 rfl).stored (m * 4 + 3) (.int .i64 E)).2)
              · have h := (M3.out.upO 2 rfl).put (j := m * 4 + 3) (.int .i64 E)
                rw [HADD.out, sd_setP P k jb f e E, HPM.out]
                exact h
          case rest =>
            obtain ⟨O', L', cO', hL', K4, M4⟩ := hcut
            clear M3 K3 L1'
            have cb := M4.out.cellK 0 rfl
            have fb := M4.out.frozenK 0 rfl
            have hkl3 : k * 3 + 2 < n * 3 := by omega
            have l2 : wc.cell? ⟨gl, k * 3 + 2, none⟩ = some (.int .i64 ℓ) := ((M4.out.rowO 1 rfl).cellAt (k * 3 + 2) (by omega)).trans hnx.out.2.2
            have fl := (M4.out.rowO 1 rfl).frozenAt
            have hggl : g ≠ gl := fun e => M4.out.dis ⟨g, _, _⟩ (List.mem_cons_self ..) ⟨56, 3, some ⟨gl, 0, none⟩, n, cL, ldV ls⟩ (by simp) _ rfl e.symm
            obtain ⟨v, hv⟩ : ∃ v : Int, (ℓ : Int) - ((E : Int) - (e : Int)) = v := ⟨_, rfl⟩
            have r1 : IntKind.i64.wrap ((E : Int) - (e : Int)) = (E : Int) - (e : Int) := IntWalk.i64_in _ (by omega)
            have r2 : IntKind.i64.wrap ((ℓ : Int) - ((E : Int) - (e : Int))) = v := by rw [IntWalk.i64_in _ (by omega), hv]
            have M5 : Hid (Mem w0 ((wc.setCell ⟨gl, k * 3 + 2, none⟩ (.int .i64 v)).setCell ⟨g, 0, none⟩ (.int .i64 E)).drew (⟨g, 54, #[.int .i64 E, .slice (some ⟨gl, 0, none⟩) n cL, .slice C n cC, .slice O' L' cO']⟩ :: Ks) (⟨56, 3, some ⟨gl, 0, none⟩, n, cL, (ldV ls).set (k * 3 + 2) (.int .i64 v)⟩ :: ⟨36, 4, O', L', cO', sdV (addS Q k jb e E)⟩ :: ⟨3, 1, C, n, cC, ints (ts.map TD.cost)⟩ :: Os)) :=
              (((M4.out.upO 1 rfl).put (j := k * 3 + 2) (.int .i64 v)).set (i := 0) (.int .i64 E)).drew
            have K5 : Hid (Kp g gl w ((wc.setCell ⟨gl, k * 3 + 2, none⟩ (.int .i64 v)).setCell ⟨g, 0, none⟩ (.int .i64 E)).drew) := ((K4.out.trans (Kp.set _ (p := ⟨gl, k * 3 + 2, none⟩) (.inr rfl) _)).trans (Kp.set _ (p := ⟨g, 0, none⟩) (.inl rfl) _)).trans (Kp.below (below_drewN (Below.refl _ _) 1))
            go_upto_region 9 with fail
            go_region
            all_goals go_upto_region 11 with fail
            generalize World.drew (World.setCell _ _ _) = w5 at M5 K5 ⊢
            clear M4 K4 cb fb l2 fl r1 r2
            have cb := M5.out.cellK 0 rfl
            have fb := M5.out.frozenK 0 rfl
            have hrow : ∀ i, i < 3 → w5.cell? ⟨gl, k * 3 + i, none⟩ = ((ldV ls).set (k * 3 + 2) (.int .i64 v))[k * 3 + i]? := fun i hi => (M5.out.rowO 0 rfl).cellAt (k * 3 + i) (by omega)
            have hlen3 : k * 3 + 2 < (ldV ls).length := by have := (List.getElem?_eq_some_iff.1 hnx.out.2.2).1; exact this
            have l2 : w5.cell? ⟨gl, k * 3 + 2, none⟩ = some (.int .i64 v) := (hrow 2 (by omega)).trans (by rw [List.getElem?_set_self hlen3])
            have l0 : w5.cell? ⟨gl, k * 3, none⟩ = some (.int .i64 ct) := (hrow 0 (by omega)).trans (by rw [List.getElem?_set_ne (by omega)]; exact hnx.out.1)
            have l1 : w5.cell? ⟨gl, k * 3 + 1, none⟩ = some (.int .i64 jb) := (hrow 1 (by omega)).trans (by rw [List.getElem?_set_ne (by omega)]; exact hnx.out.2.1)
            have fl := (M5.out.rowO 0 rfl).frozenAt
            have hmeas : Hid (∀ wz : World, wz.cell? ⟨g, 0, none⟩ = some (.int .i64 E) → T - nowAt g wz < T - nowAt g wr) := by
              intro wz hz
              have h := HNOW.out
              rw [h, nowAt, hz]
              simp
              omega
            clear hrow hlen3 HNOW
            have HV := Lib.hid hv
            have HSOK : Hid ((stepB ts s1 k ⟨ct, jb, ℓ⟩ E).ok ts (b + (E - s.now))) := (step_ok HA.out HOK.out (by rw [HLS.out]; exact HLK.out) (by simp only; omega) (by rw [HEE.out]; exact hE1) (by rw [HEE.out]; simp only; omega)).more (by omega)
            have HSW : Hid (OnWay ts T s (stepB ts s1 k ⟨ct, jb, ℓ⟩ E)) := fun R h1 h2 h3 => by
              have hs := HW.out R h1 h2 h3
              rw [HEE.out] at hs
              have h := step_std HA.out (R := R) (e := e) (T := T) (E := E) (k := k) (l := ⟨ct, jb, ℓ⟩) (fun i hi m m1 m2 => h3 i hi m (by omega) m2) (by rw [← hs]; exact HFV.out) (by rw [← hs, HLS.out]; exact HLK.out) hE1 hE2 (by simp only; omega)
              rw [← hs] at h
              exact h
            have HSQ : Hid ((stepB ts s1 k ⟨ct, jb, ℓ⟩ E).q = addS Q k jb e E) := by
              show addS s1.q k jb s1.now E = _
              rw [HQ.out, HEE.out]
            rcases (show v = 0 ∨ 0 < v by omega) with hv0 | hv0
            · have hvt : (v == 0) = true := by simp [hv0]
              have HV0 := Lib.hid hv0
              obtain ⟨gc, rfl, hgc1, hgc2⟩ := (M5.out.upO 2 rfl).head hn0
              have HKT : Hid ((ints (ts.map TD.cost))[k]? = some (.int .i64 (costF ts k))) := by
                have : k < ts.length := by rw [HL.out]; exact hkn'
                simp [Hid, ints, costF, List.getElem?_map, List.getElem?_eq_getElem this]
              have cc : w5.cell? ⟨gc, k, none⟩ = some (.int .i64 (costF ts k)) := ((M5.out.rowO 2 rfl).cellAt k (by omega)).trans HKT.out
              have hgcl : gc ≠ gl := fun e => by
                have h := M5.out.disO
                simp only [List.pairwise_cons] at h
                exact h.1 ⟨3, 1, some ⟨gc, 0, none⟩, n, cC, ints (ts.map TD.cost)⟩ (by simp) _ _ rfl rfl e.symm
              have r3 : IntKind.i64.wrap (ct - 1) = ct - 1 := IntWalk.i64_in _ (by omega)
              have r4 : IntKind.i64.wrap (jb + 1) = jb + 1 := IntWalk.i64_in _ (by omega)
              clear hv0 hv
              go_upto_region 12 with fail
              go_region
              go_wp2
              go_roundw
              case rel =>
                refine ⟨stepB ts s1 k ⟨ct, jb, ℓ⟩ E, show s.now ≤ E by omega, .inl hE2, HSOK, HSW, O', cO', (K5.out.trans (((Kp.set w5 (p := ⟨gl, k * 3, none⟩) (.inr rfl) _).trans (Kp.set _ (p := ⟨gl, k * 3 + 1, none⟩) (.inr rfl) _)).trans (Kp.set _ (p := ⟨gl, k * 3 + 2, none⟩) (.inr rfl) _))).trans (Kp.below (below_drewN (Below.refl _ _) 1)), ?_⟩
                have h := ((((M5.out.put (j := k * 3) (.int .i64 (ct - 1))).put (j := k * 3 + 1) (.int .i64 (jb + 1))).put (j := k * 3 + 2) (.int .i64 (costF ts k))).drew).upO 2 rfl
                have hl : ldV (stepB ts s1 k ⟨ct, jb, ℓ⟩ E).ls = ((((ldV ls).set (k * 3 + 2) (.int .i64 v)).set (k * 3) (.int .i64 (ct - 1))).set (k * 3 + 1) (.int .i64 (jb + 1))).set (k * 3 + 2) (.int .i64 (costF ts k)) := by
                  rw [lsB_done (by rw [HEE.out, HV.out]; exact HV0.out), HLS.out, ld_all HKL.out (.int .i64 v)]
                rw [rowsB, boardV, HSQ.out, hl, hL']
                exact h.upO 1 rfl
              case measure => exact hmeas.out _ (by simp [World.cell?_setCell_other, cb])
            · have hvt : (v == 0) = false := by simp; omega
              clear hv
              go_wp2
              go_roundw
              case rel =>
                refine ⟨stepB ts s1 k ⟨ct, jb, ℓ⟩ E, show s.now ≤ E by omega, .inl hE2, HSOK, HSW, O', cO', K5, ?_⟩
                have h := M5.out.upO 2 rfl
                have hl : ldV (stepB ts s1 k ⟨ct, jb, ℓ⟩ E).ls = (ldV ls).set (k * 3 + 2) (.int .i64 v) := by
                  rw [lsB_run (by rw [HEE.out, HV.out]; omega), HEE.out, HV.out, HLS.out, ld_one HKL.out hnx.out.1 hnx.out.2.1]
                rw [rowsB, boardV, HSQ.out, hl, hL']
                exact h.upO 1 rfl
              case measure => exact hmeas.out _ (cb 0)
    · have hTe : T ≤ s1.now := by omega
      have hs : Hid (s.now ≤ T → s1.now = T) := fun h => by
        rcases HE2.out with h2 | h2
        · omega
        · rw [h2] at hlt ⊢; omega
      have M2 := Lib.hid (HM.out.set (i := 0) (.int .i64 T))
      have K2 := Lib.hid (HK.out.trans (Kp.set wr (p := ⟨g, 0, none⟩) (.inl rfl) (.int .i64 T)))
      have HO2 : Hid (BS.ok ts (b + 20000) ⟨T, s1.ls, s1.q⟩) := HOK.out.more (by omega)
      have HI : Hid (s.now ≤ T → OnWay ts T s ⟨T, s1.ls, s1.q⟩) := fun h R h1 h2 h3 => by
        have h4 := HW.out R h1 h2 h3
        have h5 := hs.out h
        rw [h5] at h4
        rw [← h4]
        obtain ⟨a, b, c⟩ := s1
        simp only at h5
        rw [h5]
      clear HM HK hTe hs
      go_wp2
      go_end0
      exact ⟨rfl, K2.out, ⟨T, s1.ls, s1.q⟩, O, cO, rfl, HO2.out, HI.out, M2.out⟩
end Go.Proofs.Ythnpeekeoaiaoaa.Task
