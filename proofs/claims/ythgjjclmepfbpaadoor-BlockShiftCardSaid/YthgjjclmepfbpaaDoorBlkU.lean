/-
  The walk of the law BlockCounts. Conditions: the arguments read; the variable that holds the length of the library's longest quick search reads.
-/
import Derived.Test.YthgjjclmepfbpaaDoorBlkT
import Derived.Test.YthgjjclmepfbpaaDoorO
namespace Go.Proofs.YthgjjclmepfbpaaDoor.Blk
open Go.RowKit Go.Proofs.YthgjjclmepfbpaaDoor.W Go.Proofs.YthgjjclmepfbpaaDoor.Ints Go.Proofs.YthgjjclmepfbpaaDoor.Cell Go.Proofs.YthgjjclmepfbpaaDoor.Num

/-- a counter's step, case by case -/
theorem cN_reset (p n x : Int) : ctuN p n x 1 = 0 := by simp [ctuN]
theorem cN_low (p n x : Int) (h : x ≠ 1) : ctuN p n x 0 = n := by simp [ctuN, h]
theorem cN_was (n x : Int) : ctuN 1 n x 0 = n := by simp [ctuN]
theorem cN_full (p n x : Int) (h : n = 32767) : ctuN p n x 0 = n := by
  subst h
  unfold ctuN
  rw [if_neg (by decide)]
  split
  · rfl
  · rfl
theorem cN_up (n : Int) (h : n < 32767) : ctuN 0 n 1 0 = n + 1 := by
  unfold ctuN
  rw [if_neg (by decide), if_pos ⟨rfl, rfl⟩]
  omega
theorem cN_range (p n x r : Int) (h0 : 0 ≤ n) (h1 : n ≤ 32767) : 0 ≤ ctuN p n x r ∧ ctuN p n x r ≤ 32767 := by
  unfold ctuN
  split
  · omega
  · split
    · omega
    · omega
theorem w1_id (x : Int) (h : x = 0 ∨ x = 1) : wrapF 1 x = x := by
  unfold wrapF
  rw [if_pos rfl]
  omega
theorem w2_id (x : Int) (h : -32768 ≤ x) (h' : x ≤ 32767) : wrapF 2 x = x := by
  unfold wrapF
  rw [if_neg (by decide), if_pos rfl]
  omega
theorem ctuF_id (p n x r v : Int) (hp : p = 0 ∨ p = 1) (hn : -32768 ≤ n) (hn' : n ≤ 32767) (hx : x = 0 ∨ x = 1) (hr : r = 0 ∨ r = 1) (hv : -32768 ≤ v) (hv' : v ≤ 32767) :
    ctuF [p, n] [x, r, v] = ([x, ctuN p n x r], [if v ≤ ctuN p n x r then 1 else 0, ctuN p n x r]) := by
  unfold ctuF
  rw [ctu_st, ctu_ins]
  simp only [fitF, rawF, List.length_cons, List.length_nil, if_pos, List.zipWith_cons_cons, List.zipWith_nil_left, w1_id _ hp, w2_id _ hn hn', w1_id _ hx, w1_id _ hr, w2_id _ hv hv']
theorem b01 (b : Bool) : (if b = true then (1 : Int) else 0) = 0 ∨ (if b = true then (1 : Int) else 0) = 1 := by cases b <;> simp

set_option maxRecDepth 100000 in
set_option maxHeartbeats 12800000 in
theorem counts_law (pv : Int) (A : Option Addr) (N c : Nat) (xs : List Int) (w : World) (m : Int) (hm : w.cell? ⟨0, 0, none⟩ = some (.int .i64 m)) (hr : Rd w 1 A N (ints xs)) (hx : ∀ x ∈ xs, I64 x) (hp : I64 pv) (hN : N * 8 ≤ 140737488351232) :
    Calls Tryd.prog 7 #[.int .i64 pv, .slice A N c] w fun e w' => e = .returned (.bool true) ∧ Below w.heap.size w w' := by
  have HR := Lib.hid hr
  have HX := Lib.hid hx
  have HM := Lib.hid (And.intro hm (lt_of_cell hm))
  have hlen : xs.length = N := by simpa [ints] using hr.len
  have HLN := Lib.hid hlen
  clear hr hx hm hlen
  obtain ⟨p1, p2⟩ := hp
  go_enter Tryd.func7, Tryd.ntmps7
  go_upto_region 3 with fail
  have M0 : Hid (∃ gs cc, Rd (w.alloc (.cells #[.int .i64 0, .int .i64 0] 3)) 1 (some ⟨gs, 0, none⟩) 2 (ints [0, 0]) ∧ Below w.heap.size w (w.alloc (.cells #[.int .i64 0, .int .i64 0] 3)) ∧ gs = w.heap.size ∧ cc = 2) :=
    ⟨_, _, Rd.own ((((Mem.start w).alloc 3 #[.int .i64 0, .int .i64 0]).asRow (sz := 1) (n := 2) (xs := ints [0, 0]) rfl rfl (by decide)).rowO 0 rfl), below_alloc _, rfl, rfl⟩
  generalize World.alloc _ _ = w1 at M0 ⊢
  obtain ⟨gs0, cc0, hr0, hb0, hg0, hc0⟩ := M0.out
  rw [← hg0]
  have R0 := Lib.hid (And.intro hr0 hb0)
  clear M0 hr0 hb0 hg0 hc0
  go_cut [21] from 16 to 21 (fun v wz => v = .bool (decide (pv < -32768) || decide (32767 < pv)) ∧ w1 = wz)
  case first =>
    cases t1 : decide (pv < -32768)
    · cases t2 : decide (32767 < pv)
      · go_wp2
        go_meet
        exact ⟨by rw [t1, t2]; rfl, rfl⟩
      · go_wp2
        go_meet
        exact ⟨by rw [t1, t2]; rfl, rfl⟩
    · go_wp2
      go_meet
      exact ⟨by rw [t1]; rfl, rfl⟩
  case rest =>
    obtain ⟨rfl, rfl⟩ := hcut
    go_upto_if 21 with fail
    go_cut [0] from 16 to 21 (fun v wz => ∃ P : Int, v = .int .i64 P ∧ (-32768 ≤ P ∧ P ≤ 32767) ∧ w1 = wz)
    case first =>
      cases t1 : (decide (pv < -32768) || decide (32767 < pv))
      · go_wp2
        go_meet
        refine ⟨pv, rfl, ?_, rfl⟩
        simp at t1
        omega
      · go_wp2
        go_meet
        exact ⟨3, rfl, by omega, rfl⟩
    case rest =>
      obtain ⟨P, rfl, ⟨hP1, hP2⟩, rfl⟩ := hcut
      clear p1 p2
      go_wp2
      go_loopw [5, 6, 7, 8] (fun v5 v6 v7 v8 wr => ∃ (k gs cc : Nat) (wb : Bool) (n : Int), k ≤ N ∧ v5 = .slice (some ⟨gs, 0, none⟩) 2 cc ∧ v6 = .int .i64 n ∧ v7 = .bool wb ∧ v8 = .int .i64 k ∧ (0 ≤ n ∧ n ≤ 32767) ∧ Hid (Rd wr 1 (some ⟨gs, 0, none⟩) 2 (ints [if wb = true then 1 else 0, n])) ∧ Hid (Below w.heap.size w wr)) (fun _ _ _ v8 _ => N - (intOf v8).toNat)
      case atStart => exact ⟨0, gs0, 2, false, 0, Nat.zero_le _, rfl, rfl, rfl, rfl, by omega, R0.out.1, R0.out.2⟩
      case round =>
        clear R0
        obtain ⟨k, gs, cc, wb, n, hk, rfl, rfl, rfl, rfl, ⟨hn1, hn2⟩, RS, BW⟩ := hrel
        by_cases hlt : k < N
        · obtain ⟨b, o, rfl, hc⟩ := (HR.out.below BW.out).2 (by omega)
          have hkl : k < xs.length := by rw [HLN.out]; exact hlt
          obtain ⟨x, hxk⟩ : ∃ x, xs[k]? = some x := ⟨_, List.getElem?_eq_getElem hkl⟩
          obtain ⟨x1, x2⟩ := HX.out x (List.mem_of_getElem? hxk)
          have cx : wr.cell? ⟨b, o + k, none⟩ = some (.int .i64 x) := hc k _ (by simp [ints, hxk])
          have hk0 : (0 : Int) ≤ (k : Int) := by omega
          have hkn : (k : Int) < (N : Int) := by omega
          clear hc hxk hkl
          go_upto_region 8 with fail
          go_quiet (fail)
          go_upto_region 9 with fail
          go_upto_if 40 with fail
          have hx2 : x % 2 = 0 ∨ x % 2 = 1 := by omega
          have ex : bits .and .i64 x 1 = x % 2 := Num.and_one x
          obtain ⟨rb, hrb⟩ : ∃ rb, (bits .and .i64 x 6 == 6) = rb := ⟨_, rfl⟩
          obtain ⟨xb, hxb⟩ : ∃ xb, (bits .and .i64 x 1 == 1) = xb := ⟨_, rfl⟩
          rw [hrb, hxb]
          have hx3 : xb = true ↔ x % 2 = 1 := by
            rw [← hxb, ex]
            simp
          have EX := Lib.hid ex
          clear hrb hxb ex
          have R1 := Lib.hid (And.intro (RS.out.drewN nq) (below_drewN BW.out nq))
          have c1 : (wr.drewN nq).cell? ⟨b, o + k, none⟩ = some (.int .i64 x) := cx
          clear RS BW cx
          generalize wr.drewN nq = w2 at R1 c1 ⊢
          go_cut [6] from 40 to 51 (fun v wz => v = .int .i64 (ctuN (if wb = true then 1 else 0) n (x % 2) (if rb = true then 1 else 0)) ∧ w2 = wz)
          case first =>
            cases rb
            · cases xb
              · have t2 : x % 2 ≠ 1 := fun h => absurd (hx3.2 h) (by decide)
                go_wp2
                go_meet
                exact ⟨by rw [if_neg (by decide : ¬ false = true), cN_low _ _ _ t2], rfl⟩
              · have t2 : x % 2 = 1 := hx3.1 rfl
                cases wb
                · cases t3 : decide (n < 32767)
                  · go_wp2
                    go_meet
                    simp at t3
                    exact ⟨by rw [if_neg (by decide : ¬ false = true), cN_full _ _ _ (by omega)], rfl⟩
                  · have t4 : n < 32767 := by simpa using t3
                    go_wp2
                    go_meet
                    exact ⟨by rw [if_neg (by decide : ¬ false = true), t2, cN_up _ t4], rfl⟩
                · go_wp2
                  go_meet
                  exact ⟨by rw [if_pos trivial, if_neg (by decide : ¬ false = true), cN_was], rfl⟩
            · go_wp2
              go_meet
              exact ⟨by rw [if_pos trivial, cN_reset], rfl⟩
          case rest =>
            obtain ⟨rfl, rfl⟩ := hcut
            obtain ⟨nn1, nn2⟩ := cN_range (if wb = true then 1 else 0) n (x % 2) (if rb = true then 1 else 0) hn1 hn2
            have hF := ctuF_id (if wb = true then 1 else 0) n (x % 2) (if rb = true then 1 else 0) P (b01 wb) (by omega) (by omega) hx2 (b01 rb) hP1 hP2
            generalize ctuN (if wb = true then 1 else 0) n (x % 2) (if rb = true then 1 else 0) = nn at nn1 nn2 hF ⊢
            go_upto_if 53 with fail
            go_cut [11] from 53 to 53 (fun v wz => v = .int .i64 (if rb = true then 1 else 0) ∧ w2 = wz)
            case first =>
              cases rb
              · go_wp2
                go_meet
                exact ⟨rfl, rfl⟩
              · go_wp2
                go_meet
                exact ⟨rfl, rfl⟩
            case rest =>
              obtain ⟨rfl, rfl⟩ := hcut
              obtain ⟨rI, hrI⟩ : ∃ v : Int, (if rb = true then 1 else 0) = v := ⟨_, rfl⟩
              obtain ⟨pI, hpI⟩ : ∃ v : Int, (if wb = true then 1 else 0) = v := ⟨_, rfl⟩
              obtain ⟨qI, hqI⟩ : ∃ v : Int, (if P ≤ nn then 1 else 0) = v := ⟨_, rfl⟩
              have rI01 : rI = 0 ∨ rI = 1 := by rw [← hrI]; exact b01 rb
              have pI01 : pI = 0 ∨ pI = 1 := by rw [← hpI]; exact b01 wb
              rw [hrI, hpI, hqI] at hF
              rw [hpI] at R1
              rw [hrI]
              clear hrI hpI
              obtain ⟨yv, hyv⟩ : ∃ v : Int, bits .and .i64 x 1 = v := ⟨_, rfl⟩
              have hy : yv = x % 2 := hyv.symm.trans EX.out
              rw [← hy] at hF hx3 hx2
              have M3 : Hid (Rd (w2.alloc (.cells #[.int .i64 (bits .and .i64 x 1), .int .i64 rI, .int .i64 P] 3)) 1 (some ⟨gs, 0, none⟩) 2 (ints [pI, n]) ∧ Rd (w2.alloc (.cells #[.int .i64 (bits .and .i64 x 1), .int .i64 rI, .int .i64 P] 3)) 1 (some ⟨w2.heap.size, 0, none⟩) 3 (ints [yv, rI, P]) ∧ Below w.heap.size w (w2.alloc (.cells #[.int .i64 (bits .and .i64 x 1), .int .i64 rI, .int .i64 P] 3))) :=
                ⟨R1.out.1.alloc _, by rw [hyv]; exact Rd.own ((((Mem.start w2).alloc 3 #[.int .i64 yv, .int .i64 rI, .int .i64 P]).asRow (sz := 1) (n := 3) (xs := ints [yv, rI, P]) rfl rfl (by decide)).rowO 0 rfl), R1.out.2.trans ((below_alloc _).mono R1.out.2.size)⟩
              have hkI : I64 (k : Int) := ⟨by omega, by have := hN; omega⟩
              have hyI : I64 yv := ⟨by omega, by omega⟩
              have hrI' : I64 rI := ⟨by omega, by omega⟩
              have hpI' : I64 pI := ⟨by omega, by omega⟩
              have hnI' : I64 n := ⟨by omega, by omega⟩
              have hPI' : I64 P := ⟨by omega, by omega⟩
              have HY : Hid ((if xb = true then (1 : Int) else 0) = yv) := by
                refine Lib.hid ?_
                by_cases h : xb = true
                · rw [if_pos h, hx3.1 h]
                · rw [if_neg h]
                  rcases hx2 with e | e
                  · exact e.symm
                  · exact absurd (hx3.2 e) h
              clear hyv hy hx3 hx2
              go_wp2_with fail
              generalize World.alloc _ _ = w3 at M3 ⊢
              refine (Step_ctu m _ 2 _ [pI, n] _ 3 _ [yv, rI, P] k w3 ?_ M3.out.1 M3.out.2.1 ?_ ?_ hkI).mono ?_
              · exact (M3.out.2.2.cell HM.out.2).trans HM.out.1
              · intro y hy
                simp only [List.mem_cons, List.not_mem_nil, or_false] at hy
                rcases hy with rfl | rfl <;> assumption
              · intro y hy
                simp only [List.mem_cons, List.not_mem_nil, or_false] at hy
                rcases hy with rfl | rfl | rfl <;> assumption
              rw [hF]
              rintro e w4 ⟨g2, g3, rfl, M4⟩
              dsimp only
              have R4 := Lib.hid (And.intro (M4.rdO 0 rfl) (M3.out.2.2.trans (M4.bel.mono M3.out.2.2.size)))
              have M5 := M4.rdO 1 rfl
              clear M3 M4 R1
              obtain ⟨b3, o3, e3, c3⟩ := M5.2 (by decide)
              injection e3 with e3
              injection e3 with e3 e4
              subst e3
              subst e4
              have d0 : w4.cell? ⟨g3, 0, none⟩ = some (.int .i64 qI) := c3 0 _ rfl
              have d1 : w4.cell? ⟨g3, 1, none⟩ = some (.int .i64 nn) := c3 1 _ rfl
              clear c3 M5
              have RR : Hid (Rd w4 1 (some ⟨g2, 0, none⟩) 2 (ints [if xb = true then 1 else 0, nn])) := Lib.hid (by rw [HY.out]; exact R4.out.1)
              by_cases hPN : P ≤ nn
              · obtain rfl : qI = 1 := by rw [← hqI, if_pos hPN]
                clear hqI hF
                go_wp2
                go_roundw
                case rel => exact ⟨k + 1, g2, 2, xb, nn, by omega, rfl, rfl, rfl, by go_num, ⟨nn1, nn2⟩, RR, Lib.hid R4.out.2⟩
                case measure => simp [intOf]; omega
              · obtain rfl : qI = 0 := by rw [← hqI, if_neg hPN]
                clear hqI hF
                go_wp2
                go_roundw
                case rel => exact ⟨k + 1, g2, 2, xb, nn, by omega, rfl, rfl, rfl, by go_num, ⟨nn1, nn2⟩, RR, Lib.hid R4.out.2⟩
                case measure => simp [intOf]; omega
        · have hk1 : ¬ (k : Int) < (N : Int) := by omega
          go_wp2_with fail
          refine (shape_known (b := b_ctu) (by simp [bts]) m wr ((BW.out.cell HM.out.2).trans HM.out.1)).mono ?_
          rintro e w4 ⟨A1, c1, A2, c2, A3, c3, Ks, rfl, M4⟩
          dsimp only
          have B4 := Lib.hid (BW.out.trans (M4.bel.mono BW.out.size))
          go_wp2
          go_ret
          exact ⟨rfl, B4.out.trans ((below_alloc _).mono B4.out.size)⟩
theorem ints_in {H : Type} {enc : TypeId × Value → H} {w : World} {B : Option Addr} {m d : Nat} (h : O.Op enc Tryd.prog w 31 [.slice B m d]) : ∃ ys, Rd w 1 B m (ints ys) ∧ (∀ y ∈ ys, I64 y) ∧ m * 8 ≤ 140737488351232 := by
  obtain ⟨A, n, c, zs, e, hnc, hc, hr, hz, _⟩ := h.ints Tryd.underlying31 Tryd.underlying3 (by kernel_rfl) (by kernel_rfl)
  simp only [List.cons.injEq, Value.slice.injEq, and_true] at e
  obtain ⟨rfl, rfl, rfl⟩ := e
  exact ⟨zs, hr, hz, by omega⟩
theorem walk_Counts (H : Type) (enc : TypeId × Value → H) (w : World) (m : Int) (hm : w.cell? ⟨0, 0, none⟩ = some (.int .i64 m)) (pv : Int) (hpv : (Lit.int .i64 pv).wf = true) (A : Option Addr) (n c : Nat) (ho : O.Op enc Tryd.prog w 31 [.slice A n c]) :
    Calls Tryd.prog 7 #[.int .i64 pv, .slice A n c] w fun e w' => e = .returned (.bool true) ∧ Below w.heap.size w w' := by
  obtain ⟨xs, hr, hx, hn⟩ := ints_in ho
  exact counts_law pv A n c xs w m hm hr hx (by simpa [I64, Lit.wf, IntKind.min, IntKind.max, IntKind.signed, IntKind.bits] using hpv) hn
end Go.Proofs.YthgjjclmepfbpaaDoor.Blk
