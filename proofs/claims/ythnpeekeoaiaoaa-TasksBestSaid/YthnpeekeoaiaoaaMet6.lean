/-
  The walk of the law TasksMeet. Conditions: the arguments read, within the form's own reach.
-/
import Derived.Test.YthnpeekeoaiaoaaMet5
import Derived.Test.YthnpeekeoaiaoaaBst2
import Derived.Test.YthnpeekeoaiaoaaPly10
import Derived.Test.YthnpeekeoaiaoaaMake
import Derived.Deep.DeepCutAuto
namespace Go.Proofs.Ythnpeekeoaiaoaa.Task
open Go.RowKit Go.Proofs.Ythnpeekeoaiaoaa.W Go.Proofs.Ythnpeekeoaiaoaa.Ints

theorem duties5 (A : Option Addr) (n c : Nat) (l : List DU) (idle : Bool) (w : World) (hr : Rd w 4 A n (duV l)) (hd : ∀ d ∈ l, d.ok) {ts : List TD} {N : Nat} (hts : dutiesF l 5 idle = ts) (hN : ts.length = N) :
    Calls Try.prog 15 #[.slice A n c, .int .i64 5, .bool idle] w fun e w' => ∃ A' c', e = .returned (.slice A' N c') ∧ w'.ownsRow w.heap.size 42 5 (.slice A' N c') N (tasksV ts) ∧ Below w.heap.size w w' := by
  subst hN
  subst hts
  exact duties_any A n c 5 l idle w hr hd (by omega)

theorem ints_set (l : List Int) (i : Nat) (v : Int) : (ints l).set i (.int .i64 v) = ints (l.set i v) := by simp [ints]

set_option maxRecDepth 100000 in
set_option maxHeartbeats 6400000 in
theorem Meet_core (A : Option Addr) (n c : Nat) (idle : Bool) (w : World) (ts : List TD) (N : Nat) (hN16 : N ≤ 16)
    (hdu : ∀ w', Below w.heap.size w w' → Calls Try.prog 15 #[.slice A n c, .int .i64 5, .bool idle] w' fun e w'' => ∃ A' c', e = .returned (.slice A' N c') ∧ w''.ownsRow w'.heap.size 42 5 (.slice A' N c') N (tasksV ts) ∧ Below w'.heap.size w' w'')
    (told : List Int) (hre : ∀ w' A' c', Rd w' 5 A' N (tasksV ts) → N ≤ c' → Calls Try.prog 10 #[.slice A' N c'] w' fun e w'' => ∃ A3 c3, e = .returned (.tuple #[.slice A3 N c3, faultV (0, 0)]) ∧ w''.ownsRow w'.heap.size 3 1 (.slice A3 N c3) N (ints told) ∧ Below w'.heap.size w' w'')
    (X : List SD) (K : Nat) (hpl : ∀ w' A' c', Rd w' 5 A' N (tasksV ts) → N ≤ c' → Calls Try.prog 12 #[.slice A' N c', .int .i64 1200] w' fun e w'' => ∃ A3 c3, e = .returned (.tuple #[.slice A3 K c3, faultV (0, 0)]) ∧ w''.ownsRow w'.heap.size 36 4 (.slice A3 K c3) K (sdV X) ∧ Below w'.heap.size w' w'')
    (hK : X.length = K) (hK12 : K ≤ 1200) (hN : ts.length = N) (W J : Nat → List Int) (T : Nat → Int) (hm : Meets ts told idle X W J T) :
    Calls Try.prog 5 #[.slice A n c, .bool idle] w fun e w' => e = .returned (.bool true) ∧ Below w.heap.size w w' := by
  have HDU := Lib.hid hdu
  have HRE := Lib.hid hre
  have HPL := Lib.hid hpl
  have HM := Lib.hid hm
  have HK := Lib.hid hK
  have HN := Lib.hid hN
  clear hdu hre hpl hm hK hN
  go_enter Try.func5, Try.ntmps5
  go_wp2_with fail
  refine (known_any _).mono ?_
  rintro e w1 ⟨rfl, hb⟩
  have M1 := Lib.hid ((Mem.start w).below hb)
  clear hb
  go_wp2_with fail
  refine (HDU.out _ M1.out.bel).mono ?_
  rintro e w2 ⟨A2, c2, rfl, ho, hb⟩
  have M2 := Lib.hid (M1.out.made hb ho)
  clear ho hb M1
  have hNc := (M2.out.shapeO 0 rfl).1
  go_wp2_with fail
  refine (HRE.out _ A2 c2 (M2.out.rdO 0 rfl) hNc).mono ?_
  rintro e w3 ⟨A3, c3, rfl, ho, hb⟩
  have M3 := Lib.hid ((M2.out.made hb ho).alloc 26 #[.int .i64 0, .int .i64 0, .int .i64 0])
  clear ho hb M2
  have k0 := M3.out.cellK 0 rfl
  go_wp2_with fail
  refine (HPL.out _ A2 c2 (M3.out.rdO 1 rfl) hNc).mono ?_
  rintro e w4 ⟨A4, c4, rfl, ho, hb⟩
  have M4 := Lib.hid ((M3.out.made hb ho).alloc 26 #[.int .i64 0, .int .i64 0, .int .i64 0])
  clear ho hb M3 k0
  have k0 := M4.out.cellK 0 rfl
  have hmk := make_any N (by omega)
  go_upto_region 14 with fail
  have M5 : Hid (∃ Ks, Mem w (((w4.alloc (Obj.cells #[Value.int IntKind.i64 0, Value.int IntKind.i64 0, Value.int IntKind.i64 0] 26)).alloc (Obj.cells (noughts N) 3)).alloc (Obj.cells (noughts N) 3)) Ks
      [⟨3, 1, some ⟨w4.heap.size + 1, 0, none⟩, N, N, ints (W 0)⟩, ⟨3, 1, some ⟨w4.heap.size + 1 + 1, 0, none⟩, N, N, ints (J 0)⟩, ⟨36, 4, A4, K, c4, sdV X⟩, ⟨3, 1, A3, N, c3, ints told⟩, ⟨42, 5, A2, N, c2, tasksV ts⟩]) := by
    have h := ((M4.out.made (below_alloc (.cells (noughts N) 3)) (make_own N (by omega) _ (Nat.le_refl _))).made (below_alloc (.cells (noughts N) 3)) (make_own N (by omega) _ (Nat.le_refl _))).upO 1 rfl
    simp only [World.size_alloc] at h
    rw [HM.out.w0, HM.out.j0, HN.out]
    exact ⟨_, h⟩
  clear k0 hmk M4
  generalize World.alloc (World.alloc (World.alloc _ _) _) _ = w5 at M5 ⊢
  obtain ⟨g, hg⟩ : ∃ g, w4.heap.size = g := ⟨_, rfl⟩
  rw [hg] at M5 ⊢
  clear hg
  have ht0 := HM.out.t0
  go_wp2
  go_loopw [12, 13] (fun v12 v13 wr => ∃ k : Nat, k ≤ K ∧ v13 = .int .i64 k ∧ v12 = .int .i64 (T k) ∧ ∃ Ks, Hid (Mem w wr Ks
      [⟨3, 1, some ⟨g + 1, 0, none⟩, N, N, ints (W k)⟩, ⟨3, 1, some ⟨g + 1 + 1, 0, none⟩, N, N, ints (J k)⟩, ⟨36, 4, A4, K, c4, sdV X⟩, ⟨3, 1, A3, N, c3, ints told⟩, ⟨42, 5, A2, N, c2, tasksV ts⟩])) (fun _ i _ => K - (intOf i).toNat)
  case atStart =>
    obtain ⟨Ks, h⟩ := M5.out
    exact ⟨0, Nat.zero_le _, rfl, by rw [ht0], Ks, h⟩
  case round =>
    clear M5
    obtain ⟨k, hk, rfl, rfl, Ks, HM0⟩ := hrel
    by_cases hlt : k < K
    · obtain ⟨b, o, s, rfl, hs, hbl, d0, d1, d2, d3⟩ := sd_at (HM0.out.rdO 2 rfl) hlt
      obtain ⟨hT, i, a, r, v, tn⟩ := HM.out.turn k s hs
      obtain ⟨ta, tk, tto, t0, ge, fwd, hi, job, wk, j0, j1, off, rl0, rel, v0, fit, cst, full, part⟩ := tn
      obtain ⟨tk', jb, fr, ti⟩ := s
      simp only at tk d0 d1 d2 d3 hT ge fwd hi job j0 j1 rl0 rel fit full part
      subst tk
      have HF := Lib.hid full
      have HP := Lib.hid part
      have hiN : i < N := by rw [← HN.out]; exact (List.getElem?_eq_some_iff.1 ta).1
      have cJ : wr.cell? ⟨g + 1 + 1, i, none⟩ = some (.int .i64 jb) := by
        rw [(HM0.out.rowO 1 rfl).cellAt i (by omega)]
        simp [ints, job]
      have cW : wr.cell? ⟨g + 1, i, none⟩ = some (.int .i64 v) := by
        rw [(HM0.out.rowO 0 rfl).cellAt i (by omega)]
        simp [ints, wk]
      have lJ := lt_of_cell cJ
      have lW := lt_of_cell cW
      have hk0 : (0 : Int) ≤ (k : Int) := by omega
      have hkn : (k : Int) < (K : Int) := by omega
      have hi0 : (0 : Int) ≤ (i : Int) := by omega
      have hi1 : (i : Int) < (N : Int) := by omega
      have M7 := Lib.hid (HM0.out.alloc 36 #[.int .i64 i, .int .i64 jb, .int .i64 fr, .int .i64 ti])
      have x0 := M7.out.cellK 0 rfl
      have HS := Lib.hid hs
      clear full part hs
      generalize hTk : T k = now at t0 ge ⊢
      go_upto_region 19 with fail
      go_quiet (fail)
      go_upto_region 22 with fail
      generalize hw6 : World.drewN _ _ = w6
      have M8 : Hid (Mem w w6 (⟨wr.heap.size, 36, #[.int .i64 i, .int .i64 jb, .int .i64 fr, .int .i64 ti]⟩ :: Ks)
        [⟨3, 1, some ⟨g + 1, 0, none⟩, N, N, ints (W k)⟩, ⟨3, 1, some ⟨g + 1 + 1, 0, none⟩, N, N, ints (J k)⟩, ⟨36, 4, some ⟨b, o, none⟩, K, c4, sdV X⟩, ⟨3, 1, A3, N, c3, ints told⟩, ⟨42, 5, A2, N, c2, tasksV ts⟩]) := by
        rw [← hw6]
        exact M7.out.drewN _
      clear hw6 M7 d0 d1 d2 d3 hbl x0 cJ cW lJ lW
      obtain ⟨bt, ot, a', rfl, hta', hbt, t0', t1, t2, t3, t4⟩ := task_at (M8.out.rdO 4 rfl) hiN
      obtain rfl : a = a' := by rw [ta] at hta'; injection hta'
      clear hta'
      have x0 := M8.out.cellK 0 rfl
      obtain ⟨gx, hgx⟩ : ∃ gx, wr.heap.size = gx := ⟨_, rfl⟩
      rw [hgx] at M8 x0 ⊢
      have xlt := (M8.out.ltK 0 rfl).2
      clear hgx
      have M9 := Lib.hid (M8.out.alloc 42 #[.string a.name, .int .i64 a.per, .int .i64 a.off, .int .i64 a.cost, .int .i64 a.dead])
      go_upto_region 26 with fail
      generalize World.alloc _ _ = w7 at M9 ⊢
      clear M8 x0 t0' t1 t2 t3 t4 hbt xlt
      have x0 := M9.out.cellK 1 rfl
      have xt := M9.out.cellK 0 rfl
      have cW : w7.cell? ⟨g + 1, i, none⟩ = some (.int .i64 v) := by
        rw [(M9.out.rowO 0 rfl).cellAt i (by omega)]
        simp [ints, wk]
      have fW := (M9.out.rowO 0 rfl).frozenAt
      have hw1 : IntKind.i64.wrap (v + IntKind.i64.wrap (ti - fr)) = v + (ti - fr) := by simp [IntKind.wrap, IntKind.bits, IntKind.signed]; omega
      go_region
      clear hw1 cW fW x0 xt
      have M10 := Lib.hid ((M9.out.put (j := i) (.int .i64 (v + (ti - fr)))).drew)
      rw [ints_set] at M10
      generalize World.drew _ = w8 at M10 ⊢
      clear M9
      have x0 := M10.out.cellK 1 rfl
      have xt := M10.out.cellK 0 rfl
      obtain ⟨u, hu⟩ : ∃ u, v + (ti - fr) = u := ⟨_, rfl⟩
      rw [hu] at M10 fit HF HP ⊢
      have u0 : 0 ≤ u := by omega
      have cW : w8.cell? ⟨g + 1, i, none⟩ = some (.int .i64 u) := by
        have hl : i < (W k).length := (List.getElem?_eq_some_iff.1 wk).1
        rw [(M10.out.rowO 0 rfl).cellAt i (by omega)]
        simp [ints, hl]
      clear hu
      have q1 : decide (a.cost < u) = false := decide_eq_false (by omega)
      by_cases hful : u = a.cost
      · obtain ⟨f1, f2, f3, f4⟩ := HF.out hful
        have q2 : decide (u = a.cost) = true := decide_eq_true hful
        generalize hrls : a.off + jb * a.per = rls at f1 f2 rel ⊢
        clear HF HP
        go_wp2_with fail
        go_quiet (fail)
        go_wp2_with fail
        go_quiet (fail)
        go_upto_region 31 with fail
        generalize hw9 : World.drewN _ _ = w9
        have M11 : Hid (Mem w w9 (⟨w6.heap.size, 42, #[.string a.name, .int .i64 a.per, .int .i64 a.off, .int .i64 a.cost, .int .i64 a.dead]⟩ :: ⟨gx, 36, #[.int .i64 i, .int .i64 jb, .int .i64 fr, .int .i64 ti]⟩ :: Ks)
          [⟨3, 1, some ⟨g + 1, 0, none⟩, N, N, ints ((W k).set i u)⟩, ⟨3, 1, some ⟨g + 1 + 1, 0, none⟩, N, N, ints (J k)⟩, ⟨36, 4, some ⟨b, o, none⟩, K, c4, sdV X⟩, ⟨3, 1, A3, N, c3, ints told⟩, ⟨42, 5, some ⟨bt, ot, none⟩, N, c2, tasksV ts⟩]) := by
          rw [← hw9]
          first | exact M10.out.drewN _ | exact (M10.out.drewN _).drewN _
        clear hw9 x0 xt cW M10
        have x0 := M11.out.cellK 1 rfl
        have cW : w9.cell? ⟨g + 1, i, none⟩ = some (.int .i64 u) := by
          have hl : i < (W k).length := (List.getElem?_eq_some_iff.1 wk).1
          rw [(M11.out.rowO 0 rfl).cellAt i (by omega)]
          simp [ints, hl]
        obtain ⟨gt, rfl, _, _⟩ := (M11.out.upO 3 rfl).head (by omega)
        have ct : w9.cell? ⟨gt, i, none⟩ = some (.int .i64 r) := by
          rw [(M11.out.rowO 3 rfl).cellAt i (by omega)]
          simp [ints, tto]
        generalize ti - rls = took at f1 f2 ⊢
        have g1 : decide (r < took) = false := decide_eq_false (by omega)
        have hpr : (idle = true ∧ (jb == 0) = true ∧ (took != r) = false) ∨ (idle = true ∧ (jb == 0) = false) ∨ idle = false := by
          cases idle
          · exact .inr (.inr rfl)
          · by_cases hj : jb = 0
            · exact .inl ⟨rfl, by simp [hj], by simp [f2 rfl hj]⟩
            · exact .inr (.inl ⟨rfl, by simp [hj]⟩)
        clear f2
        have hrec := Lib.hid (And.intro f3 f4)
        clear f3 f4
        rcases hpr with ⟨rfl, g3, g2⟩ | ⟨rfl, g2⟩ | rfl
        all_goals
          go_upto_region 33 with fail
          clear ct
          have fW := (M11.out.rowO 0 rfl).frozenAt
          have M13 := Lib.hid (M11.out.put (j := i) (.int .i64 0))
          rw [ints_set, List.set_set] at M13
          go_upto_region 34 with fail
          generalize World.setCell _ _ _ = w11 at M13 ⊢
          clear x0 fW cW M11
          have x0 := M13.out.cellK 1 rfl
          have fJ := (M13.out.rowO 1 rfl).frozenAt
          have cJ : w11.cell? ⟨g + 1 + 1, i, none⟩ = some (.int .i64 jb) := by
            rw [(M13.out.rowO 1 rfl).cellAt i (by omega)]
            simp [ints, job]
          have M14 := Lib.hid (((M13.out.upO 1 rfl).put (j := i) (.int .i64 (jb + 1))).upO 1 rfl)
          rw [ints_set] at M14
          go_upto_region 17 with fail
          generalize World.setCell _ _ _ = w12 at M14 ⊢
          clear x0 fJ cJ M13
          go_wp2
          go_roundw
          case rel => exact ⟨k + 1, by omega, by go_num, by rw [hT], _, by rw [hrec.out.1, hrec.out.2]; exact M14⟩
          case measure => simp [intOf]; omega
      · obtain ⟨f1, f2⟩ := HP.out hful
        have q2 : decide (u = a.cost) = false := decide_eq_false hful
        clear HF HP
        go_wp2_with fail
        go_quiet (fail)
        go_wp2_with fail
        go_quiet (fail)
        go_upto_region 17 with fail
        generalize hw9 : World.drewN _ _ = w9
        have M11 : Hid (∃ Ks, Mem w w9 Ks
          [⟨3, 1, some ⟨g + 1, 0, none⟩, N, N, ints ((W k).set i u)⟩, ⟨3, 1, some ⟨g + 1 + 1, 0, none⟩, N, N, ints (J k)⟩, ⟨36, 4, some ⟨b, o, none⟩, K, c4, sdV X⟩, ⟨3, 1, A3, N, c3, ints told⟩, ⟨42, 5, some ⟨bt, ot, none⟩, N, c2, tasksV ts⟩]) := by
          rw [← hw9]
          first | exact ⟨_, M10.out.drewN _⟩ | exact ⟨_, (M10.out.drewN _).drewN _⟩
        clear hw9 x0 xt cW M10
        go_wp2
        go_roundw
        case rel =>
          obtain ⟨Ks', h⟩ := M11.out
          exact ⟨k + 1, by omega, by go_num, by rw [hT], Ks', by rw [f1, f2]; exact h⟩
        case measure => simp [intOf]; omega
    · obtain rfl : k = K := by omega
      have hlast := HM.out.last
      rw [HK.out] at hlast
      have HL := Lib.hid hlast
      clear hlast hlt
      have hb := Lib.hid HM0.out.bel
      go_wp2
      obtain ⟨w0, hw0⟩ : ∃ w0 : World, w0 = wr := ⟨_, rfl⟩
      subst hw0
      go_loopw [18] (fun v18 wr => ∃ j : Nat, j ≤ N ∧ v18 = .int .i64 j ∧ ∃ q, wr = w0.drewN q) (fun i _ => N - (intOf i).toNat)
      case atStart => exact ⟨0, Nat.zero_le _, rfl, 0, rfl⟩
      case round =>
        obtain ⟨j, hj, rfl, q, rfl⟩ := hrel
        by_cases hjn : j < N
        · obtain ⟨bt, ot, a, rfl, ta, hbt, t0', t1, t2, t3, t4⟩ := task_at (HM0.out.rdO 4 rfl) hjn
          obtain ⟨gt, rfl, _, _⟩ := (HM0.out.upO 3 rfl).head (by omega)
          have htl : told.length = N := by
            have := (HM0.out.shapeO 3 rfl).2.2
            simpa [ints] using this
          obtain ⟨r, hr⟩ : ∃ r, told[j]? = some r := ⟨_, List.getElem?_eq_getElem (by omega)⟩
          obtain ⟨⟨r0, r1⟩, ⟨p1, p2, o1, o2⟩, qv, hq, q0, q1, hq2⟩ := HL.out j a r ta hr
          have ct : w0.cell? ⟨gt, j, none⟩ = some (.int .i64 r) := by
            rw [(HM0.out.rowO 3 rfl).cellAt j (by omega)]
            simp [ints, hr]
          have cJ : w0.cell? ⟨g + 1 + 1, j, none⟩ = some (.int .i64 qv) := by
            rw [(HM0.out.rowO 1 rfl).cellAt j (by omega)]
            simp [ints, hq]
          have HQ := Lib.hid hq2
          have hj0 : (0 : Int) ≤ (j : Int) := by omega
          have hj1 : (j : Int) < (N : Int) := by omega
          clear ta t0' t4 hr hq hq2 htl hbt
          go_wp2
          go_loopw [19] (fun v19 wr => ∃ m : Nat, (m : Int) ≤ qv ∧ v19 = .int .i64 m ∧ ∃ q, wr = w0.drewN q) (fun i _ => qv.toNat - (intOf i).toNat)
          case atStart => exact ⟨0, by omega, rfl, _, rfl⟩
          case round =>
            obtain ⟨m, hm, rfl, q', rfl⟩ := hrel
            have hp0 : 0 ≤ (m : Int) * a.per := Int.mul_nonneg (by omega) (by omega)
            have hp1 : (m : Int) * a.per ≤ 1200 * 1000000 := Int.mul_le_mul (by omega) p2 (by omega) (by omega)
            have hm0 : (0 : Int) ≤ (m : Int) := by omega
            have hend := HQ.out m
            have HE := Lib.hid hend
            clear hend
            obtain ⟨hw1, hw2, hw3⟩ : IntKind.i64.wrap ((m : Int) * a.per) = (m : Int) * a.per ∧ IntKind.i64.wrap (a.off + (m : Int) * a.per) = a.off + (m : Int) * a.per ∧ IntKind.i64.wrap (a.off + (m : Int) * a.per + r) = a.off + (m : Int) * a.per + r := by
              generalize (m : Int) * a.per = z at hp0 hp1 ⊢
              refine ⟨?_, ?_, ?_⟩ <;> simp [IntKind.wrap, IntKind.bits, IntKind.signed] <;> omega
            by_cases hc : a.off + (m : Int) * a.per + r ≤ 1200
            · have hmq := HE.out hc
              have hd : decide (a.off + (m : Int) * a.per + r ≤ 1200) = true := decide_eq_true hc
              go_wp2
              go_quiet (fail)
              go_wp2
              go_roundw
              case rel => exact ⟨m + 1, by omega, by go_num, _, rfl⟩
              case measure => simp [intOf]; omega
            · have hd : decide (a.off + (m : Int) * a.per + r ≤ 1200) = false := decide_eq_false hc
              go_wp2
              go_quiet (fail)
              go_wp2
              go_roundw
              case rel => exact ⟨j + 1, by omega, by go_num, _, rfl⟩
              case measure => simp [intOf]; omega
        · have hjn' : ¬ (j : Int) < (N : Int) := by omega
          go_wp2
          go_ret
          exact ⟨rfl, hb.out.trans (below_drewN (Below.refl _ _) _)⟩
end Go.Proofs.Ythnpeekeoaiaoaa.Task
